/- Texts LgE of this proof, joined. -/
import Derived.Orders
import Derived.Below
import Derived.Deep.MidRow
import Derived.Deep.AppendSrc
import Derived.Laws.MakeOwn
import Derived.WalkKit
import Derived.Laws.Externs
import Derived.Laws.BytesString
import Derived.Laws.Cells
set_option linter.unusedVariables false
set_option linter.unusedSimpArgs false
namespace Go.Lg
theorem J {p:Prop} (h:p:=by omega):p:=h
theorem dR {p:Prop} (h:p:=by exact dO rfl (by first | exact .pure rfl | exact .pure (yA _) | exact .pure (kf _) | exact .pure (an.pure _) | exact .pure (cd fX _ _) | exact .pure (cd an _ _))):p:=h
theorem al {p:Prop} (h:p:=by decide +kernel):p:=h
theorem aKz {p:Prop} (h:p:=by first | exact .pure rfl | exact .pure (yA _) | exact .pure (kf _) | exact .pure (an.pure _) | exact .pure (cd fX _ _) | exact .pure (cd an _ _)):p:=h
theorem fq {p:Prop} (h:p:=by exact asq [] rfl rfl rfl (an.av _) (p7 _) dC (.pure (an.pure _)) rfl rfl (an.av _) (p7 _) dC (.pure (an.pure _)) rfl (.pure rfl)):p:=h
theorem ai {p:Prop} (h:p:=by decide):p:=h
theorem bN {p:Prop} (h:p:=by simp [LV.av,cL,an.av]):p:=h
theorem cu {p:Prop} (h:p:=by exact .bin rfl rfl (acd (by omega))):p:=h
theorem rN {p:Prop} (h:p:=by exact .fV (d:=13) (news:=x.2.2.map eP) rfl rfl rfl rfl (by simp) (.inl rfl) (by decide) Tryz.underlying22 Tryz.underlying22 (show cF _ _ (eP 0) from Z3) T3 rfl B3 (.inr (.inl rfl)) (by simp;omega) (by simp;omega) (by decide)):p:=h
theorem bq {p:Prop} (h:p:=by simp;omega):p:=h
theorem abc {p:Prop} (h:p:=by exact .fV (d:=1) (news:=[.agg [.list 6 ((x.1.take na).map aD),.list 6 ((x.1.drop na).map aD),ae (k9 (lk (x.1.take na) (x.1.drop na))),ae (kV (lk (x.1.take na) (x.1.drop na)))]]) rfl rfl rfl rfl (by simp) (.inl rfl) (by decide) Tryz.underlying36 Tryz.underlying36 xF pR rfl B46 (.inl ⟨143,0,_,rfl,by decide,rfl,rfl,by simp,rfl,aDY⟩) (by simp;omega) (by simp;omega) (by decide)):p:=h
theorem jJ {p:Prop} (h:p:=by exact fi [] rfl rfl rfl (an.av _) (p7 _) dC (.pure (an.pure _))):p:=h
theorem wX {p:Prop} (h:p:=by exact .fV (d:=6) (news:=x.1.map aD) rfl rfl rfl rfl (by simp) (.inl rfl) (by decide) Tryz.underlying44 Tryz.underlying44 aaq (by rw [bl.isAgg];exact jM) cs B48 (.inr (.inl rfl)) (by simp;omega) (by simp;omega) (by decide)):p:=h
theorem ck {p:Prop} (h:p:=by simp [Op.operands]):p:=h
theorem aW {p:Prop} (h:p:=by simp):p:=h
theorem jE {p:Prop} (h:p:=by first | omega | (simp only [List.length_map];omega)):p:=h
theorem aiX {p:Prop} (h:p:=by exact fi [13,20,25,26] rfl rfl rfl cs (cr cs rfl) nd (.agg (.cons (.pure rfl) (.cons (.pure rfl) (.cons (.pure nH) (.cons (dH (l:=aA 1 0 1) an rfl rfl rfl) (.cons (.aeC (blk:=⟨1,_,false⟩) rfl rfl (Nat.le_of_ble_eq_true rfl) rfl (.cons (dH (l:=[(⟨a,1⟩:ar),⟨c,1⟩]) bz rfl rfl rfl) (.cons (dH (l:=[(⟨b,1⟩:ar),⟨d,1⟩]) bz rfl rfl rfl) .nil))) .nil))))))):p:=h
theorem od {p:Prop} (h:p:=by exact fi [] rfl rfl rfl (bl.av _) (wi _) jM (.pure (bl.pure _))):p:=h
theorem agm {p:Prop} (h:p:=by exact .build (zs:=[.v (.int .i64 0),.v (.int .i64 0),.v (.slice none 0 0),.v (.slice none 0 0),.v (.slice none 0 0)]) ata Z29 (by simp only [List.forall_mem_cons];exact⟨⟨_,rfl,rfl,jH⟩,⟨_,rfl,rfl,jH⟩,⟨_,rfl,rfl,jH⟩,⟨_,rfl,rfl,jH⟩,⟨_,rfl,rfl,jH⟩,fun _ h=>by cases h⟩)):p:=h
theorem iE {p:Prop} (h:p:=by first | assumption | exact cZ _):p:=h
theorem nh {p:Prop} (h:p:=by exact .bin rfl rfl (afC (by omega) (by omega))):p:=h
theorem anU {p:Prop} (h:p:=by exact .dU (b:=3) (sz:=5) (i:=0) (o:=0) (x:=(.agg [ae U,ae V,.list 3 (kU.map aa),.list 3 (kV.map aa),.list 1 ([cT,db].map a5)])) (r:=(.agg [ae U,ae V,.list 3 (kU.map aa),.list 3 (kV.map aa),.list 1 ([cT,db].map a5)])) (n:=5) (ag:=true) rfl rfl rfl rfl ns.cs (cr ns.cs ns.ag) nd):p:=h
theorem ll {p:Prop} (h:p:=by simp [Op.operands,Call.operands]):p:=h
theorem yO {p:Prop} (h:p:=by simp only [aG cN,List.length_map,List.length_take,List.length_cons,List.length_nil];omega):p:=h
theorem jQ {p:Prop} (h:p:=by rw [List.length_map];omega):p:=h
theorem jL {p:Prop} (h:p:=by exact dO rfl (.pure rfl)):p:=h
theorem aol {p:Prop} (h:p:=by exact .fV (d:=26) (news:=[kH (pF x),kH (oY x)]) rfl rfl rfl rfl (by simp) (.inl rfl) (by decide) Tryz.underlying144 Tryz.underlying144 anW xk rfl aD2 (.inl ⟨155,0,_,rfl,by decide,rfl,rfl,by simp,rfl,by simp [aK,vm]⟩) (by simp;omega) (by simp;omega) (by decide)):p:=h
theorem aK1 {p:Prop} (h:p:=by simp only [List.forall_mem_cons];exact⟨⟨_,rfl,rfl,jH⟩,⟨_,rfl,rfl,jH⟩,⟨_,rfl,rfl,jH⟩,⟨_,rfl,rfl,jH⟩,⟨_,rfl,rfl,jH⟩,fun _ h=>by cases h⟩):p:=h
theorem pw {p:Prop} (h:p:=by simp [LV.av,cL,bl.av,an.av]):p:=h
theorem ab0 {p:Prop} (h:p:=by first | exact ayT (by omega) aex | exact ayC (by omega) (by simpa using aeh) | exact aJu (by omega)):p:=h
theorem aax {p:Prop} (h:p:=by first | omega | (simp only [qk,qB,rh,qI];omega)):p:=h
theorem acR {p:Prop} (h:p:=by first | exact .arv (h:=_) fX rfl Tryz.underlying30 rR rfl om | exact .ahZ rfl Tryz.underlying30 rR rfl om om):p:=h
theorem alK {p:Prop} (h:p:=by exact .dU (b:=2) (sz:=3) (i:=0) (o:=0) (x:=(.agg [ae dc,.list 3 (kc.map aa),.list 12 (cW.map bm)])) (r:=(.agg [ae dc,.list 3 (kc.map aa),.list 12 (cW.map bm)])) (n:=3) (ag:=true) rfl rfl rfl rfl hCo.cs (cr hCo.cs hCo.ag) ob):p:=h
theorem lK {p:Prop} (h:p:=by exact lU (i+1) (by omega)):p:=h
theorem aa0 {p:Prop} (h:p:=by exact ⟨[],cs,[],by simp,rfl,by rw [hl,hd,h2];rfl,by simpa using hy,by rw [h2];rfl⟩):p:=h
theorem ai8 {p:Prop} (h:p:=by intro p hp;simp only [List.mem_cons,List.not_mem_nil,or_false] at hp;rcases hp with rfl | rfl<;>exact⟨by decide,rfl,(fun h=>by cases h),(fun _ h=>by cases h)⟩):p:=h
theorem afX {p:Prop} (h:p:=by exact fi [] rfl rfl rfl rfl rfl dC (.agg (.cons (.pure rfl) (.cons (.pure (kf _)) (.cons (.pure (kf _)) .nil))))):p:=h
theorem ab8 {p:Prop} (h:p:=by exact ⟨[],cs,[],by simp,rfl,by simpa [LV.av] using hl,hr,rfl,rfl,by simp,by simp⟩):p:=h
theorem sP {p:Prop} (h:p:=by first | omega | (simp;done) | (simp;omega)):p:=h
theorem sj {p:Prop} (h:p:=by exact .bin rfl rfl (xC (by omega))):p:=h
theorem adG {p:Prop} (h:p:=by simp only [aG bz,List.length_map,List.length_take,List.length_cons,List.length_nil];omega):p:=h
theorem aaf {p:Prop} (h:p:=by simp only [List.length_append,List.length_cons,List.length_nil];omega):p:=h
theorem asL {p:Prop} (h:p:=by exact .fV (d:=8) (news:=[aa (p.getD k 0)]) rfl rfl rfl rfl (by simp;omega) (.inl rfl) (by decide) Tryz.underlying26 Tryz.underlying26 kT dC rfl kX (.inl ⟨19,0,_,rfl,by decide,rfl,rfl,by simp,rfl,by simp [aK,an.pure]⟩) (by simp;omega) (by simp;omega) (by decide)):p:=h
theorem yI {p:Prop} (h:p:=by exact fi [] rfl rfl rfl cs (cr cs rfl) iQ (.pure pu)):p:=h
theorem dz {p:Prop} (h:p:=by grind):p:=h
theorem ahs {p:Prop} (h:p:=by exact ⟨_,trivial,((aj (aj (aj (aj (aj (aj (aj (bJ cl) cl) cl) cl) cl) cl) cl) cl)).symm⟩):p:=h
theorem alX {p:Prop} (h:p:=by exact .wj (a:=i+1) (h:=k.length+1) rfl Tryz.underlying26 dC (fun y hy=>by cases hy;exact⟨_,rfl⟩) (fun h=>by cases h) (fun y hy=>by cases hy) (fun _=>rfl) om om om):p:=h
theorem aom {p:Prop} (h:p:=by exact .wj (a:=i) (h:=k.length+1) rfl Tryz.underlying26 dC (fun y hy=>by cases hy;exact⟨_,rfl⟩) (fun h=>by cases h) (fun y hy=>by cases hy) (fun _=>rfl) om om om):p:=h
theorem adM {p:Prop} (h:p:=by exact .bin rfl rfl (acw (by first | omega | (simp only [qk,qB,rh,qI];omega)))):p:=h
theorem aey {p:Prop} (h:p:=by exact ⟨_,trivial,((aj (aj (aj (aj (bJ cl) cl) cl) cl) cl)).symm⟩):p:=h
theorem axM {p:Prop} (h:p:=by exact .app rfl rfl rfl rfl rfl (Nat.zero_le _) (.inr rfl) (by decide) Tryz.underlying30 Tryz.underlying30 abS rR rfl abe (.inr (.inl rfl)) (by first | (simp;done) | (simp;omega)) (by first | (simp;done) | (simp;omega)) (by decide)):p:=h
theorem amz {p:Prop} (h:p:=by exact ⟨_,rfl,by rw [h0];simp [lay,an.av,an.isAgg],by rw [h0];exact LV.dT (an.pure _),by rw [h0];exact LV.dG (an.pure _)⟩):p:=h
theorem qp {p:Prop} (h:p:=by exact lU (j+1) (by omega)):p:=h
theorem xM {p:Prop} (h:p:=by first | omega | (simp only [cb];omega)):p:=h
theorem xE {p:Prop} (h:p:=by first | (simp;done) | (simp;omega) | omega):p:=h
theorem aea {p:Prop} (h:p:=by exact abN [] rfl rfl (.pure (kf _)) rfl (.pure (kf _)) rfl (.pure rfl)):p:=h
theorem ar1 {p:Prop} (h:p:=by exact abH (hQ (x-1) _ ⟨hxd,ash hVe hRe rM (by omega) kY adL (Nat.le_of_lt lY.1) lY.2,lY.1⟩) (aj (aj (aj (aj (aj (aj (aj (bJ cl) cl) cl) cl) cl) cl) cl) cl)):p:=h
theorem aaN {p:Prop} (h:p:=by simp [LV.pure,aK,aP an,aP cN]):p:=h
theorem aaK {p:Prop} (h:p:=by exact .bin rfl rfl (aaa (by omega) (by omega))):p:=h
theorem acs {p:Prop} (h:p:=by exact fi [] rfl rfl rfl rfl rfl adk (.pure (dJ _ _ _))):p:=h
theorem agw {p:Prop} (h:p:=by exact qE [] rfl rfl rfl (an.av _) (p7 _) dC (.pure (an.pure _)) rfl (.pure rfl)):p:=h
theorem rE {p:Prop} (h:p:=by exact .aHH axQ kT):p:=h
theorem vr {p:Prop} (h:p:=by first | rfl | (rw [au6];rfl)):p:=h
theorem aai {p:Prop} (h:p:=by rw [List.length_map,List.length_take];omega):p:=h
theorem aak {p:Prop} (h:p:=by exact vu rfl (.pure rfl) rfl (.pure rfl)):p:=h
theorem avZ {p:Prop} (h:p:=by rw [bl.isAgg];exact jM):p:=h
theorem acW {p:Prop} (h:p:=by first | omega | (simp only [List.length_map,uI];omega)):p:=h
theorem an6 {p:Prop} (h:p:=by simp only [aG (l5 U kU),List.length_map,List.length_take,List.length_cons,List.length_nil];omega):p:=h
theorem nP {p:Prop} (h:p:=by simpa using h):p:=h
theorem adu {p:Prop} (h:p:=by exact fi [] rfl rfl rfl rfl rfl dC (.pure rfl)):p:=h
theorem aeF {p:Prop} (h:p:=by exact fi [] rfl rfl rfl cs (cr cs rfl) T98 (.pure pu)):p:=h
theorem ahF {p:Prop} (h:p:=by show rl (cJ p (l.getD i default))+rl (cJ p (l.getD i default))<=_;omega):p:=h
theorem abC {p:Prop} (h:p:=by exact .bin rfl rfl (ai3 rfl (by omega))):p:=h
theorem yb {p:Prop} (h:p:=by exact lU (k+1) (by omega)):p:=h
theorem oB {p:Prop} (h:p:=by exact .inl h):p:=h
theorem xB {p:Prop} (h:p:=by rw [nU hc hi];omega):p:=h
theorem acg {p:Prop} (h:p:=by rw [List.take_append_drop];exact g4):p:=h
theorem agb {p:Prop} (h:p:=by simp [LV.pure,aK,aP an,aP bz]):p:=h
theorem afa {p:Prop} (h:p:=by exact .bin rfl rfl (zj (by omega) (by omega))):p:=h
theorem vO {p:Prop} (h:p:=by rw [gW];omega):p:=h
theorem aeu {p:Prop} (h:p:=by exact .bin rfl rfl (aiK (by omega) (by omega))):p:=h
end Go.Lg
open Array renaming ext'->wa,getElem?_eq_some_iff->nC,getElem?_toList->amf,length_toList->nM,map->afd,size_push->aka
open BitVec renaming ofInt->tk
open Decidable renaming not_not->aEf
open List renaming cons_append->apU,drop_append->axO,drop_drop->qL,drop_of_length_le->kB,getElem?_cons_zero->sZ,getElem?_eq_getElem->bY,getElem?_eq_some_iff->oe,getElem?_map->gZ,length_append->jS,length_cons->l8,length_map->eD,length_take->fQ,map_cons->lI,mem_map->ga,mem_of_getElem?->sQ,mem_of_mem_drop->xX,mem_of_mem_take->x5,nil_append->afv,replicate->aV,set_cons_succ->afs,take_append_drop->xu,take_succ_cons->rq
open List.cons renaming injEq->gj
open Nat renaming add_assoc->oQ,add_mul->iw,add_zero->mg,le_refl->bF,min_eq_left->nt,zero_add->fg
open Option renaming map_eq_some_iff->zc,map_none->anw,map_some->rz
open Option.some renaming injEq->fv
open Prod.mk renaming injEq->afW
section
set_option linter.unusedVariables false
set_option linter.unusedSimpArgs false
namespace Go.Lg
inductive LV where
 | any
 | v (x:Value)
 | list (sz:Nat) (l:List LV)
 | agg (l:List LV)
 | ref (b sz off len:Nat)
 | jY (b sz off len cap:Nat)
 | aF (b sz i o:Nat)
 | ba (c:LV)
 | bQ (f:FuncId) (cap:List LV)
 | a9 (l:List LV)
instance:Inhabited LV:=⟨.any⟩
mutual
def LV.av:LV->Nat
 | .agg l=>cL l
 | _=>1
def cL:List LV->Nat
 | []=>0
 | x :: xs=>x.av+cL xs
end
def LV.isAgg:LV->Bool
 | .agg _=>true
 | _=>false
mutual
def LV.pure:LV->Bool
 | .ref ..=>false
 | .jY ..=>false
 | .aF ..=>false
 | .a9 _=>false
 | .any=>false
 | .v _=>true
 | .list _ l=>aK l
 | .agg l=>aK l
 | .ba c=>c.pure
 | .bQ _ l=>aK l
def aK:List LV->Bool
 | []=>true
 | x :: xs=>x.pure && aK xs
end
theorem yk (l:List LV):aK l=true↔∀ x∈l,x.pure=true:=by
 induction l with
 | nil=>simp [aK]
 | cons x xs ih=>simp [aK,ih]
mutual
def aJ (Z:Nat->Prop) (μ:Nat->Option Nat) (w:World):LV->List Value->Prop
 | .any,cs=>∀ u∈cs,u.oneCell'=true
 | .v x,cs=>cs=[x]/\x.oneCell'=true
 | .list sz l,cs=>∃ a len cap,cs=[.slice a len cap]/\len=l.length/\len<=cap /\
   (l=[]\/∃ blk off c T fz part rest,a=some ⟨blk,off,none⟩/\Z blk/\w.heap[blk]?=some (.cells c T fz) /\
    c.toList.drop off=part++rest/\a6 Z μ w sz l part)/\aK l=true
 | .agg l,cs=>cj Z μ w l cs
 | .ref b sz off len,cs=>(cs=[.slice none 0 0]/\len=0)\/∃ id cap c T fz,cs=[.slice (some ⟨id,off*sz,none⟩) len cap]/\μ b=some id/\len<=cap /\
   w.heap[id]?=some (.cells c T fz)/\(off+cap)*sz<=c.size
 | .jY b sz off len cap,cs=>∃ id c T fz,cs=[.slice (some ⟨id,off*sz,none⟩) len cap]/\μ b=some id/\len<=cap /\
   w.heap[id]?=some (.cells c T fz)/\(off+cap)*sz<=c.size
 | .aF b sz i o,cs=>∃ id,cs=[.pointer (some ⟨id,i*sz+o,none⟩)]/\μ b=some id
 | .ba c,cs=>∃ blk off cc T fz part rest,cs=[.pointer (some ⟨blk,off,none⟩)]/\Z blk/\w.heap[blk]?=some (.cells cc T fz) /\
   cc.toList.drop off=part++rest/\part.length=c.av/\aJ Z μ w c part/\c.pure=true
 | .bQ f cap,cs=>∃ vs,cs=[.func (.func f) #[] vs]/\a6 Z μ w 1 cap vs.toList/\aK cap=true
 | .a9 _,_=>False
def a6 (Z:Nat->Prop) (μ:Nat->Option Nat) (w:World) (sz:Nat):List LV->List Value->Prop
 | [],cs=>cs=[]
 | x :: xs,cs=>∃ c1 c2,cs=c1++c2/\c1.length=sz/\aJ Z μ w x c1/\a6 Z μ w sz xs c2
def cj (Z:Nat->Prop) (μ:Nat->Option Nat) (w:World):List LV->List Value->Prop
 | [],cs=>cs=[]
 | x :: xs,cs=>∃ c1 c2,cs=c1++c2/\c1.length=x.av/\aJ Z μ w x c1/\cj Z μ w xs c2
end
def fN (Z:Nat->Prop) (μ:Nat->Option Nat) (w:World) (lv:LV) (v:Value):Prop :=
 (lv.isAgg=true->∃ cs,v=.agg cs/\aJ Z μ w lv cs.toList)/\(lv.isAgg=false->aJ Z μ w lv [v])
def fW (Z:Nat->Prop) (μ:Nat->Option Nat) (w:World):List LV->List Value->Prop
 | [],vs=>vs=[]
 | x :: xs,vs=>∃ v jP,vs=v :: jP/\fN Z μ w x v/\fW Z μ w xs jP
def bu (Z:Nat->Prop) (μ:Nat->Option Nat) (w:World):LV->Value->Prop
 | .a9 l,v=>∃ vs,v=.tuple vs/\fW Z μ w l vs.toList
 | .any,_=>True
 | lv,v=>fN Z μ w lv v
structure Frame (Z:Nat->Prop) (μ:Nat->Option Nat) (w w':World):Prop where
 z:∀ id,Z id->w'.heap[id]?=w.heap[id]?
 m:∀ b id,μ b=some id->∀ c T fz,w.heap[id]?=some (.cells c T fz)->∃ c',w'.heap[id]?=some (.cells c' T fz)/\c'.size=c.size
theorem Frame.refl (Z:Nat->Prop) (μ:Nat->Option Nat) (w:World):Frame Z μ w w:=⟨fun _ _=>rfl,fun _ _ _ c _ _ h=>⟨c,h,rfl⟩⟩
section
variable {Z Z':Nat->Prop} {μ bD:Nat->Option Nat} {w w':World}
mutual
theorem aJ.mono (hz:∀ id,Z id->Z' id) (hm:∀ b id,μ b=some id->bD b=some id) (hf:Frame Z μ w w') :
  ∀ (lv:LV) (cs:List Value),aJ Z μ w lv cs->aJ Z' bD w' lv cs
 | .any,_,h=>by simpa [aJ] using h
 | .v x,cs,h=>by simpa [aJ] using h
 | .list sz l,cs,h=>by
   simp only [aJ] at h ⊢
   obtain⟨a,len,cap,h1,h2,h3,h4,h9⟩:=h
   refine⟨a,len,cap,h1,h2,h3,?_,h9⟩
   rcases h4 with h4 | ⟨blk,off,c,T,fz,part,rest,e1,e2,e3,e4,e5⟩
   ·exact .inl h4
   ·exact .inr ⟨blk,off,c,T,fz,part,rest,e1,hz _ e2,(hf.z _ e2).trans e3,e4,a6.mono hz hm hf sz l part e5⟩
 | .agg l,cs,h=>by
   simp only [aJ] at h ⊢
   exact cj.mono hz hm hf l cs h
 | .ref b sz off len,cs,h=>by
   simp only [aJ] at h ⊢
   rcases h with h | ⟨id,cap,c,T,fz,h1,h2,h3,h4,h5⟩
   ·exact oB
   obtain⟨c',h6,h7⟩:=hf.m b id h2 c T fz h4
   exact .inr ⟨id,cap,c',T,fz,h1,hm _ _ h2,h3,h6,J⟩
 | .jY b sz off len cap,cs,h=>by
   simp only [aJ] at h ⊢
   obtain⟨id,c,T,fz,h1,h2,h3,h4,h5⟩:=h
   obtain⟨c',h6,h7⟩:=hf.m b id h2 c T fz h4
   exact⟨id,c',T,fz,h1,hm _ _ h2,h3,h6,J⟩
 | .aF b sz i o,cs,h=>by
   simp only [aJ] at h ⊢
   obtain⟨id,h1,h2⟩:=h
   exact⟨id,h1,hm _ _ h2⟩
 | .ba c,cs,h=>by
   simp only [aJ] at h ⊢
   obtain⟨blk,off,cc,T,fz,part,rest,h1,h2,h3,h4,h5,h6,h7⟩:=h
   exact⟨blk,off,cc,T,fz,part,rest,h1,hz _ h2,(hf.z _ h2).trans h3,h4,h5,aJ.mono hz hm hf c part h6,h7⟩
 | .bQ f cap,cs,h=>by
   simp only [aJ] at h ⊢
   obtain⟨vs,h1,h2,h3⟩:=h
   exact⟨vs,h1,a6.mono hz hm hf 1 cap vs.toList h2,h3⟩
 | .a9 _,_,h=>by simp [aJ] at h
theorem a6.mono (hz:∀ id,Z id->Z' id) (hm:∀ b id,μ b=some id->bD b=some id) (hf:Frame Z μ w w') (sz:Nat) :
  ∀ (l:List LV) (cs:List Value),a6 Z μ w sz l cs->a6 Z' bD w' sz l cs
 | [],cs,h=>by simpa [a6] using h
 | x :: xs,cs,h=>by
   simp only [a6] at h ⊢
   obtain⟨c1,c2,h1,h2,h3,h4⟩:=h
   exact⟨c1,c2,h1,h2,aJ.mono hz hm hf x c1 h3,a6.mono hz hm hf sz xs c2 h4⟩
theorem cj.mono (hz:∀ id,Z id->Z' id) (hm:∀ b id,μ b=some id->bD b=some id) (hf:Frame Z μ w w') :
  ∀ (l:List LV) (cs:List Value),cj Z μ w l cs->cj Z' bD w' l cs
 | [],cs,h=>by simpa [cj] using h
 | x :: xs,cs,h=>by
   simp only [cj] at h ⊢
   obtain⟨c1,c2,h1,h2,h3,h4⟩:=h
   exact⟨c1,c2,h1,h2,aJ.mono hz hm hf x c1 h3,cj.mono hz hm hf xs c2 h4⟩
end
theorem pure_cons {x:LV} {xs:List LV} (h:aK (x :: xs)=true):x.pure=true/\aK xs=true:=by simpa [aK] using h
mutual
theorem aJ.kt (hz:∀ id,Z id->Z' id) (hf:∀ id,Z id->w'.heap[id]?=w.heap[id]?) :
  ∀ (lv:LV) (cs:List Value),lv.pure=true->aJ Z μ w lv cs->aJ Z' bD w' lv cs
 | .any,_,_,h=>by simpa [aJ] using h
 | .v x,cs,_,h=>by simpa [aJ] using h
 | .list sz l,cs,hp,h=>by
   simp only [aJ] at h ⊢
   obtain⟨a,len,cap,h1,h2,h3,h4,h9⟩:=h
   refine⟨a,len,cap,h1,h2,h3,?_,h9⟩
   rcases h4 with h4 | ⟨blk,off,c,T,fz,part,rest,e1,e2,e3,e4,e5⟩
   ·exact .inl h4
   ·exact .inr ⟨blk,off,c,T,fz,part,rest,e1,hz _ e2,(hf _ e2).trans e3,e4,a6.kt hz hf sz l part (by simpa [LV.pure] using hp) e5⟩
 | .agg l,cs,hp,h=>by
   simp only [aJ] at h ⊢
   exact cj.kt hz hf l cs (by simpa [LV.pure] using hp) h
 | .ref b sz off len,cs,hp,_=>by simp [LV.pure] at hp
 | .jY b sz off len cap,cs,hp,_=>by simp [LV.pure] at hp
 | .aF b sz i o,cs,hp,_=>by simp [LV.pure] at hp
 | .ba c,cs,hp,h=>by
   simp only [aJ] at h ⊢
   obtain⟨blk,off,cc,T,fz,part,rest,h1,h2,h3,h4,h5,h6,h7⟩:=h
   exact⟨blk,off,cc,T,fz,part,rest,h1,hz _ h2,(hf _ h2).trans h3,h4,h5,aJ.kt hz hf c part (by simpa [LV.pure] using hp) h6,h7⟩
 | .bQ f cap,cs,hp,h=>by
   simp only [aJ] at h ⊢
   obtain⟨vs,h1,h2,h3⟩:=h
   exact⟨vs,h1,a6.kt hz hf 1 cap vs.toList (by simpa [LV.pure] using hp) h2,h3⟩
 | .a9 _,_,_,h=>by simp [aJ] at h
theorem a6.kt (hz:∀ id,Z id->Z' id) (hf:∀ id,Z id->w'.heap[id]?=w.heap[id]?) (sz:Nat) :
  ∀ (l:List LV) (cs:List Value),aK l=true->a6 Z μ w sz l cs->a6 Z' bD w' sz l cs
 | [],cs,_,h=>by simpa [a6] using h
 | x :: xs,cs,hp,h=>by
   simp only [a6] at h ⊢
   obtain⟨c1,c2,h1,h2,h3,h4⟩:=h
   exact⟨c1,c2,h1,h2,aJ.kt hz hf x c1 (pure_cons hp).1 h3,a6.kt hz hf sz xs c2 (pure_cons hp).2 h4⟩
theorem cj.kt (hz:∀ id,Z id->Z' id) (hf:∀ id,Z id->w'.heap[id]?=w.heap[id]?) :
  ∀ (l:List LV) (cs:List Value),aK l=true->cj Z μ w l cs->cj Z' bD w' l cs
 | [],cs,_,h=>by simpa [cj] using h
 | x :: xs,cs,hp,h=>by
   simp only [cj] at h ⊢
   obtain⟨c1,c2,h1,h2,h3,h4⟩:=h
   exact⟨c1,c2,h1,h2,aJ.kt hz hf x c1 (pure_cons hp).1 h3,cj.kt hz hf xs c2 (pure_cons hp).2 h4⟩
end
theorem fN.mono (hz:∀ id,Z id->Z' id) (hm:∀ b id,μ b=some id->bD b=some id) (hf:Frame Z μ w w') {lv:LV} {v:Value}
  (h:fN Z μ w lv v):fN Z' bD w' lv v :=
 ⟨fun e=>let ⟨cs,h1,h2⟩:=h.1 e;⟨cs,h1,aJ.mono hz hm hf _ _ h2⟩,fun e=>aJ.mono hz hm hf _ _ (h.2 e)⟩
theorem fW.mono (hz:∀ id,Z id->Z' id) (hm:∀ b id,μ b=some id->bD b=some id) (hf:Frame Z μ w w') :
  ∀ (l:List LV) (vs:List Value),fW Z μ w l vs->fW Z' bD w' l vs
 | [],_,h=>h
 | _ :: xs,_,⟨v,jP,h1,h2,h3⟩=>⟨v,jP,h1,h2.mono hz hm hf,fW.mono hz hm hf xs jP h3⟩
theorem bu.mono (hz:∀ id,Z id->Z' id) (hm:∀ b id,μ b=some id->bD b=some id) (hf:Frame Z μ w w') {lv:LV} {v:Value}
  (h:bu Z μ w lv v):bu Z' bD w' lv v:=by
 cases lv with
 | a9 l=>obtain⟨vs,h1,h2⟩:=h;exact⟨vs,h1,h2.mono hz hm hf⟩
 | any=>trivial
 | _=>exact fN.mono hz hm hf h
theorem fN.kt (hz:∀ id,Z id->Z' id) (hf:∀ id,Z id->w'.heap[id]?=w.heap[id]?) {lv:LV} {v:Value} (hp:lv.pure=true)
  (h:fN Z μ w lv v):fN Z' bD w' lv v :=
 ⟨fun e=>let ⟨cs,h1,h2⟩:=h.1 e;⟨cs,h1,aJ.kt hz hf _ _ hp h2⟩,fun e=>aJ.kt hz hf _ _ hp (h.2 e)⟩
theorem bu.sn {lv:LV} {v:Value} (hn:∀ l,lv≠.a9 l) (h:fN Z μ w lv v):bu Z μ w lv v:=by
 cases lv with
 | a9 l=>exact absurd rfl (hn l)
 | any=>trivial
 | _=>exact h
theorem bu.yi {lv:LV} {v:Value} (hn:∀ l,lv≠.a9 l) (ha:lv≠.any) (h:bu Z μ w lv v):fN Z μ w lv v:=by
 cases lv with
 | a9 l=>exact absurd rfl (hn l)
 | any=>exact absurd rfl ha
 | _=>exact h
theorem LV.dT {lv:LV} (hp:lv.pure=true):lv≠.any:=by
 rintro rfl;simp [LV.pure] at hp
theorem LV.dG {lv:LV} (hp:lv.pure=true):∀ l,lv≠.a9 l:=by
 rintro l rfl;simp [LV.pure] at hp
theorem a6.length {sz:Nat}:∀ (l:List LV) (cs:List Value),a6 Z μ w sz l cs->cs.length=l.length*sz
 | [],cs,h=>by simp only [a6] at h;simp [h]
 | x :: xs,cs,h=>by
   simp only [a6] at h
   obtain⟨c1,c2,rfl,h2,_,h4⟩:=h
   have:=a6.length xs c2 h4
   simp only [jS,l8,iw,Nat.one_mul];omega
theorem cj.length:∀ (l:List LV) (cs:List Value),cj Z μ w l cs->cs.length=cL l
 | [],cs,h=>by simp only [cj] at h;simp [h,cL]
 | x :: xs,cs,h=>by
   simp only [cj] at h
   obtain⟨c1,c2,rfl,h2,_,h4⟩:=h
   have:=cj.length xs c2 h4
   simp only [jS,cL];omega
theorem a6.get {sz:Nat}:∀ (l:List LV) (cs:List Value) (i:Nat) (x:LV),a6 Z μ w sz l cs->l[i]?=some x ->
  ∃ pre ch post,cs=pre++(ch++post)/\pre.length=i*sz/\ch.length=sz/\aJ Z μ w x ch /\
   ∀ y pW,aJ Z μ w y pW->pW.length=sz->a6 Z μ w sz (l.set i y) (pre++(pW++post))
 | [],_,_,_,_,h=>by simp at h
 | a :: xs,cs,0,x,h,hi=>by
   simp only [a6] at h
   obtain⟨c1,c2,rfl,h2,h3,h4⟩:=h
   simp only [sZ,fv] at hi
   subst hi
   exact⟨[],c1,c2,by simp,by simp,h2,h3,fun y pW hy hl=>by simpa [a6] using ⟨pW,c2,rfl,hl,hy,h4⟩⟩
 | a :: xs,cs,i+1,x,h,hi=>by
   simp only [a6] at h
   obtain⟨c1,c2,rfl,h2,h3,h4⟩:=h
   obtain⟨pre,ch,post,rfl,e2,e3,e4,e5⟩:=a6.get xs c2 i x h4 (by simpa using hi)
   refine⟨c1++pre,ch,post,by simp,by simp [h2,e2,iw];omega,e3,e4,fun y pW hy hl=>?_⟩
   have:=e5 y pW hy hl
   simp only [afs,a6]
   exact⟨c1,pre++(pW++post),by simp,h2,h3,this⟩
theorem cj.get:∀ (l:List LV) (cs:List Value) (i:Nat) (x:LV),cj Z μ w l cs->l[i]?=some x ->
  ∃ pre ch post,cs=pre++(ch++post)/\pre.length=cL (l.take i)/\ch.length=x.av/\aJ Z μ w x ch /\
   ∀ y pW,aJ Z μ w y pW->pW.length=y.av->cj Z μ w (l.set i y) (pre++(pW++post))
 | [],_,_,_,_,h=>by simp at h
 | a :: xs,cs,0,x,h,hi=>by
   simp only [cj] at h
   obtain⟨c1,c2,rfl,h2,h3,h4⟩:=h
   simp only [sZ,fv] at hi
   subst hi
   exact⟨[],c1,c2,by simp,by simp [cL],h2,h3,fun y pW hy hl=>by simpa [cj] using ⟨pW,c2,rfl,hl,hy,h4⟩⟩
 | a :: xs,cs,i+1,x,h,hi=>by
   simp only [cj] at h
   obtain⟨c1,c2,rfl,h2,h3,h4⟩:=h
   obtain⟨pre,ch,post,rfl,e2,e3,e4,e5⟩:=cj.get xs c2 i x h4 (by simpa using hi)
   refine⟨c1++pre,ch,post,by simp,by simp [h2,e2,cL],e3,e4,fun y pW hy hl=>?_⟩
   have:=e5 y pW hy hl
   simp only [afs,cj]
   exact⟨c1,pre++(pW++post),by simp,h2,h3,this⟩
theorem a6.append {sz:Nat}:∀ (l m:List LV) (cs ds:List Value),a6 Z μ w sz l cs->a6 Z μ w sz m ds->a6 Z μ w sz (l++m) (cs++ds)
 | [],m,cs,ds,h,h'=>by simp only [a6] at h;simpa [h] using h'
 | x :: xs,m,cs,ds,h,h'=>by
   simp only [a6] at h
   obtain⟨c1,c2,rfl,h2,h3,h4⟩:=h
   have:=a6.append xs m c2 ds h4 h'
   simp only [apU,a6]
   exact⟨c1,c2++ds,by simp,h2,h3,this⟩
theorem a6.split {sz:Nat}:∀ (l m:List LV) (cs:List Value),a6 Z μ w sz (l++m) cs->∃ c1 c2,cs=c1++c2/\a6 Z μ w sz l c1/\a6 Z μ w sz m c2
 | [],m,cs,h=>⟨[],cs,rfl,by simp [a6],h⟩
 | x :: xs,m,cs,h=>by
   simp only [apU,a6] at h
   obtain⟨c1,c2,rfl,h2,h3,h4⟩:=h
   obtain⟨d1,d2,rfl,e1,e2⟩:=a6.split xs m c2 h4
   exact⟨c1++d1,d2,by simp,by simpa [a6] using ⟨c1,d1,rfl,h2,h3,e1⟩,e2⟩
theorem a6.replicate {sz:Nat} {x:LV} {ch:List Value} (h:aJ Z μ w x ch) (hl:ch.length=sz):∀ n,a6 Z μ w sz (aV n x) (aV n ch).flatten
 | 0=>by simp [a6]
 | n+1=>by
   simp only [List.replicate_succ,a6,List.flatten_cons]
   exact⟨ch,_,rfl,hl,h,a6.replicate h hl n⟩
end
mutual
def LV.at:LV->Nat->Nat->Bool->Option LV
 | .agg l,o,n,ag=>if o=0/\cL l=n/\ag=true then some (.agg l) else tP l o n ag
 | .any,_,_,_=>none
 | x,o,n,ag=>if o=0/\n=1/\ag=false then some x else none
def tP:List LV->Nat->Nat->Bool->Option LV
 | [],_,_,_=>none
 | x :: xs,o,n,ag=>if o<x.av then x.at o n ag else tP xs (o-x.av) n ag
end
mutual
def LV.put:LV->Nat->LV->Option LV
 | .agg l,o,y=>if o=0/\cL l=y.av/\y.isAgg=true then some y else(qY l o y).map .agg
 | _,o,y=>if o=0/\y.av=1/\y.isAgg=false then some y else none
def qY:List LV->Nat->LV->Option (List LV)
 | [],_,_=>none
 | x :: xs,o,y=>if o<x.av then(x.put o y).map (· :: xs) else(qY xs (o-x.av) y).map (x :: ·)
end
section
variable {Z:Nat->Prop} {μ:Nat->Option Nat} {w:World}
mutual
theorem LV.ake:∀ (x:LV) (o n:Nat) (ag:Bool) (y:LV) (cs:List Value),x.at o n ag=some y->aJ Z μ w x cs->cs.length=x.av ->
  ∃ pre ch post,cs=pre++(ch++post)/\pre.length=o/\ch.length=n/\aJ Z μ w y ch/\y.isAgg=ag/\y.av=n/\y≠.any/\∀ l,y≠.a9 l
 | .agg l,o,n,ag,y,cs,h,hr,hl=>by
   simp only [LV.at] at h
   split at h
   ·rename_i hc
    obtain⟨rfl,h2,rfl⟩:=hc
    simp only [fv] at h;subst h
    exact⟨[],cs,[],by simp,rfl,by simpa [LV.av,h2] using hl,hr,rfl,by simp [LV.av,h2],by simp,by simp⟩
   ·exact arG l o n ag y cs h (by simpa [aJ] using hr)
 | .any,_,_,_,_,_,h,_,_=>by simp [LV.at] at h
 | .v x,o,n,ag,y,cs,h,hr,hl=>by
   simp only [LV.at] at h;split at h
   ·rename_i hc;obtain⟨rfl,rfl,rfl⟩:=hc;simp only [fv] at h;subst h
    exact ab8
   ·simp at h
 | .list sz l,o,n,ag,y,cs,h,hr,hl=>by
   simp only [LV.at] at h;split at h
   ·rename_i hc;obtain⟨rfl,rfl,rfl⟩:=hc;simp only [fv] at h;subst h
    exact ab8
   ·simp at h
 | .ref b sz off len,o,n,ag,y,cs,h,hr,hl=>by
   simp only [LV.at] at h;split at h
   ·rename_i hc;obtain⟨rfl,rfl,rfl⟩:=hc;simp only [fv] at h;subst h
    exact ab8
   ·simp at h
 | .jY b sz off len cap,o,n,ag,y,cs,h,hr,hl=>by
   simp only [LV.at] at h;split at h
   ·rename_i hc;obtain⟨rfl,rfl,rfl⟩:=hc;simp only [fv] at h;subst h
    exact ab8
   ·simp at h
 | .aF b sz i o',o,n,ag,y,cs,h,hr,hl=>by
   simp only [LV.at] at h;split at h
   ·rename_i hc;obtain⟨rfl,rfl,rfl⟩:=hc;simp only [fv] at h;subst h
    exact ab8
   ·simp at h
 | .ba c,o,n,ag,y,cs,h,hr,hl=>by
   simp only [LV.at] at h;split at h
   ·rename_i hc;obtain⟨rfl,rfl,rfl⟩:=hc;simp only [fv] at h;subst h
    exact ab8
   ·simp at h
 | .bQ f cap,o,n,ag,y,cs,h,hr,hl=>by
   simp only [LV.at] at h;split at h
   ·rename_i hc;obtain⟨rfl,rfl,rfl⟩:=hc;simp only [fv] at h;subst h
    exact ab8
   ·simp at h
 | .a9 _,_,_,_,_,_,_,hr,_=>by simp [aJ] at hr
theorem arG:∀ (l:List LV) (o n:Nat) (ag:Bool) (y:LV) (cs:List Value),tP l o n ag=some y->cj Z μ w l cs ->
  ∃ pre ch post,cs=pre++(ch++post)/\pre.length=o/\ch.length=n/\aJ Z μ w y ch/\y.isAgg=ag/\y.av=n/\y≠.any/\∀ l,y≠.a9 l
 | [],_,_,_,_,_,h,_=>by simp [tP] at h
 | x :: xs,o,n,ag,y,cs,h,hr=>by
   simp only [cj] at hr
   obtain⟨c1,c2,rfl,h2,h3,h4⟩:=hr
   simp only [tP] at h
   split at h
   ·obtain⟨pre,ch,post,rfl,e2,e3,e4⟩:=LV.ake x o n ag y c1 h h3 h2
    exact⟨pre,ch,post++c2,by simp,e2,e3,e4⟩
   ·obtain⟨pre,ch,post,rfl,e2,e3,e4⟩:=arG xs (o-x.av) n ag y c2 h h4
    exact⟨c1++pre,ch,post,by simp,by simp;omega,e3,e4⟩
end
mutual
theorem LV.atL (y:LV) (dh:List Value) (hy:aJ Z μ w y dh) (hd:dh.length=y.av):∀ (x:LV) (o:Nat) (x':LV) (cs:List Value),x.put o y=some x' ->
  aJ Z μ w x cs->cs.length=x.av->∃ pre ch post,cs=pre++(ch++post)/\pre.length=o/\ch.length=dh.length/\aJ Z μ w x' (pre++(dh++post))/\x'.av=x.av
 | .agg l,o,x',cs,h,hr,hl=>by
   simp only [LV.put] at h
   split at h
   ·rename_i hc
    obtain⟨rfl,h2,_⟩:=hc
    simp only [fv] at h;subst h
    exact⟨[],cs,[],by simp,rfl,by rw [hl,hd];simp [LV.av,h2],by simpa using hy,by simp [LV.av,h2]⟩
   ·simp only [zc] at h
    obtain⟨l',h1,rfl⟩:=h
    obtain⟨pre,ch,post,e1,e2,e3,e4,e5⟩:=ar2 y dh hy hd l o l' cs h1 (by simpa [aJ] using hr)
    exact⟨pre,ch,post,e1,e2,e3,by simpa [aJ] using e4,by simpa [LV.av] using e5⟩
 | .any,o,x',cs,h,hr,hl=>by
   simp only [LV.put] at h;split at h
   ·rename_i hc;obtain⟨rfl,h2,_⟩:=hc;simp only [fv] at h;subst h
    exact aa0
   ·simp at h
 | .v x,o,x',cs,h,hr,hl=>by
   simp only [LV.put] at h;split at h
   ·rename_i hc;obtain⟨rfl,h2,_⟩:=hc;simp only [fv] at h;subst h
    exact aa0
   ·simp at h
 | .list sz l,o,x',cs,h,hr,hl=>by
   simp only [LV.put] at h;split at h
   ·rename_i hc;obtain⟨rfl,h2,_⟩:=hc;simp only [fv] at h;subst h
    exact aa0
   ·simp at h
 | .ref b sz off len,o,x',cs,h,hr,hl=>by
   simp only [LV.put] at h;split at h
   ·rename_i hc;obtain⟨rfl,h2,_⟩:=hc;simp only [fv] at h;subst h
    exact aa0
   ·simp at h
 | .jY b sz off len cap,o,x',cs,h,hr,hl=>by
   simp only [LV.put] at h;split at h
   ·rename_i hc;obtain⟨rfl,h2,_⟩:=hc;simp only [fv] at h;subst h
    exact aa0
   ·simp at h
 | .aF b sz i o',o,x',cs,h,hr,hl=>by
   simp only [LV.put] at h;split at h
   ·rename_i hc;obtain⟨rfl,h2,_⟩:=hc;simp only [fv] at h;subst h
    exact aa0
   ·simp at h
 | .ba c,o,x',cs,h,hr,hl=>by
   simp only [LV.put] at h;split at h
   ·rename_i hc;obtain⟨rfl,h2,_⟩:=hc;simp only [fv] at h;subst h
    exact aa0
   ·simp at h
 | .bQ f cap,o,x',cs,h,hr,hl=>by
   simp only [LV.put] at h;split at h
   ·rename_i hc;obtain⟨rfl,h2,_⟩:=hc;simp only [fv] at h;subst h
    exact aa0
   ·simp at h
 | .a9 _,_,_,_,_,hr,_=>by simp [aJ] at hr
theorem ar2 (y:LV) (dh:List Value) (hy:aJ Z μ w y dh) (hd:dh.length=y.av):∀ (l:List LV) (o:Nat) (l':List LV) (cs:List Value),qY l o y=some l' ->
  cj Z μ w l cs->∃ pre ch post,cs=pre++(ch++post)/\pre.length=o/\ch.length=dh.length/\cj Z μ w l' (pre++(dh++post))/\cL l'=cL l
 | [],_,_,_,h,_=>by simp [qY] at h
 | x :: xs,o,l',cs,h,hr=>by
   simp only [cj] at hr
   obtain⟨c1,c2,rfl,h2,h3,h4⟩:=hr
   simp only [qY] at h
   split at h
   ·simp only [zc] at h
    obtain⟨x',h1,rfl⟩:=h
    obtain⟨pre,ch,post,rfl,e2,e3,e4,e5⟩:=LV.atL y dh hy hd x o x' c1 h1 h3 h2
    refine⟨pre,ch,post++c2,by simp,e2,e3,?_,by simp [cL,e5]⟩
    simp only [cj]
    exact⟨pre++(dh++post),c2,by simp,by simp at h2 ⊢;omega,e4,h4⟩
   ·simp only [zc] at h
    obtain⟨xs',h1,rfl⟩:=h
    obtain⟨pre,ch,post,rfl,e2,e3,e4,e5⟩:=ar2 y dh hy hd xs (o-x.av) xs' c2 h1 h4
    refine⟨c1++pre,ch,post,by simp,by simp;omega,e3,?_,by simp [cL,e5]⟩
    simp only [cj]
    exact⟨c1,pre++(dh++post),by simp,h2,h3,e4⟩
end
theorem LV.aho {x:LV} (h:x.isAgg=false):x.av=1:=by cases x<;>simp_all [LV.isAgg,LV.av]
mutual
theorem aJ.one:∀ (lv:LV) (cs:List Value),aJ Z μ w lv cs->∀ u∈cs,u.oneCell'=true
 | .any,_,h=>by simpa [aJ] using h
 | .v x,cs,h=>by simp only [aJ] at h;obtain⟨rfl,h⟩:=h;simpa using h
 | .list sz l,cs,h=>by simp only [aJ] at h;obtain⟨a,len,cap,rfl,_⟩:=h;simp [Value.oneCell']
 | .agg l,cs,h=>by simp only [aJ] at h;exact cj.one l cs h
 | .ref b sz off len,cs,h=>by simp only [aJ] at h;rcases h with⟨rfl,_⟩ | ⟨id,cap,c,T,fz,rfl,_⟩<;>simp [Value.oneCell']
 | .jY b sz off len cap,cs,h=>by simp only [aJ] at h;obtain⟨id,c,T,fz,rfl,_⟩:=h;simp [Value.oneCell']
 | .aF b sz i o,cs,h=>by simp only [aJ] at h;obtain⟨id,rfl,_⟩:=h;simp [Value.oneCell']
 | .ba c,cs,h=>by simp only [aJ] at h;obtain⟨blk,off,cc,T,fz,part,rest,rfl,_⟩:=h;simp [Value.oneCell']
 | .bQ f cap,cs,h=>by simp only [aJ] at h;obtain⟨vs,rfl,_⟩:=h;simp [Value.oneCell']
 | .a9 _,_,h=>by simp [aJ] at h
theorem cj.one:∀ (l:List LV) (cs:List Value),cj Z μ w l cs->∀ u∈cs,u.oneCell'=true
 | [],cs,h=>by simp only [cj] at h;simp [h]
 | x :: xs,cs,h=>by
   simp only [cj] at h
   obtain⟨c1,c2,rfl,h2,h3,h4⟩:=h
   intro u hu
   rcases List.mem_append.1 hu with hu | hu
   ·exact aJ.one x c1 h3 u hu
   ·exact cj.one xs c2 h4 u hu
end
theorem aJ.len {lv:LV} {cs:List Value} (h:aJ Z μ w lv cs) (bj:lv≠.any):cs.length=lv.av:=by
 cases lv with
 | any=>exact absurd rfl bj
 | agg l=>simp only [aJ] at h;exact cj.length l cs h
 | v x=>simp only [aJ] at h;simp [h.1,LV.av]
 | list sz l=>simp only [aJ] at h;obtain⟨a,len,cap,rfl,_⟩:=h;rfl
 | ref b sz off len=>simp only [aJ] at h;rcases h with⟨rfl,_⟩ | ⟨id,cap,c,T,fz,rfl,_⟩<;>rfl
 | jY b sz off len cap=>simp only [aJ] at h;obtain⟨id,c,T,fz,rfl,_⟩:=h;rfl
 | aF b sz i o=>simp only [aJ] at h;obtain⟨id,rfl,_⟩:=h;rfl
 | ba c=>simp only [aJ] at h;obtain⟨blk,off,cc,T,fz,part,rest,rfl,_⟩:=h;rfl
 | bQ f cap=>simp only [aJ] at h;obtain⟨vs,rfl,_⟩:=h;rfl
 | a9 l=>simp [aJ] at h
theorem fN.cells {lv:LV} {v:Value} (h:fN Z μ w lv v) (bj:lv≠.any):aJ Z μ w lv v.cells.toList/\v.cells.size=lv.av /\
  (∀ u∈v.cells.toList,u.oneCell'=true)/\((lv.isAgg=true/\v=.agg v.cells)\/(lv.isAgg=false/\v.cells=#[v]/\v.oneCell'=true)):=by
 cases ha:lv.isAgg with
 | true =>
  obtain⟨cs,rfl,h2⟩:=h.1 ha
  refine⟨h2,?_,aJ.one _ _ h2,.inl ⟨rfl,rfl⟩⟩
  have:=aJ.len h2 bj
  simpa [Value.cells] using this
 | false =>
  have h2:=h.2 ha
  have h3:=aJ.one _ _ h2 v aW
  have hc:v.cells=#[v]:=by cases v<;>simp_all [Value.cells,Value.oneCell']
  rw [hc]
  exact⟨h2,by simp [LV.aho ha],by simpa using h3,.inr ⟨rfl,rfl,h3⟩⟩
theorem fN.apn {lv:LV} {cs:List Value} (h:aJ Z μ w lv cs) (bj:lv≠.any):fN Z μ w lv (if lv.isAgg then .agg cs.toArray else cs.headD default):=by
 refine⟨fun e=>⟨cs.toArray,by simp [e],h⟩,fun e=>?_⟩
 have hl:=aJ.len h bj
 rw [LV.aho e] at hl
 match cs,hl with
 | [x],_=>simpa [e] using h
end
end Go.Lg
namespace Go.Lg
structure bA where
 sz:Nat
 vals:List LV
 mt:Bool
abbrev b9:=Nat->Option bA
structure XS where
 x:Nat->Prop
 y:Nat->Prop
def XS.any (X:XS) (id:Nat):Prop:=X.x id\/X.y id
instance:CoeFun XS (fun _=>Nat->Prop):=⟨XS.any⟩
def XS.no:XS:=⟨fun _=>False,fun _=>False⟩
def XS.one (i0:Nat):XS:=⟨fun k=>k=i0,fun _=>False⟩
theorem XS.aeI {id:Nat}:¬ XS.no.any id:=fun h=>h.elim (fun e=>e) (fun e=>e)
theorem XS.axY {i0 id:Nat} (h:(XS.one i0).any id):id=i0:=h.elim (fun e=>e) False.elim
structure Kept (X:XS) (W w:World):Prop where
 os:w.os=W.os
 tape:w.tape=W.tape
 output:w.output=W.output
 size:W.heap.size<=w.heap.size
 block:∀ k,k<W.heap.size->¬ X k->w.heap[k]?=W.heap[k]?
 vg:∀ k,X k->∀ c T fz,W.heap[k]?=some (.cells c T fz)->∃ c',w.heap[k]?=some (.cells c' T fz)/\c'.size=c.size
theorem Kept.refl (X:XS) (W:World):Kept X W W:=⟨rfl,rfl,rfl,bF _,fun _ _ _=>rfl,fun _ _ c _ _ h=>⟨c,h,rfl⟩⟩
theorem Kept.below {W w:World} (h:Kept XS.no W w):RowKit.Below W.heap.size W w :=
 ⟨h.os,h.tape,h.output,h.size,fun k hk=>h.block k hk XS.aeI⟩
def ug (Z:Nat->Prop) (μ:Nat->Option Nat) (w:World) (blk:bA) (id:Nat):Prop :=
 ∃ c T part rest,w.heap[id]?=some (.cells c T (0,0))/\c.toList=part++rest/\a6 Z μ w blk.sz blk.vals part
structure Core (W:World) (X:XS) (Z0:Nat->Prop) (μ:Nat->Option Nat) (Z:Nat->Prop) (H:b9) (w:World):Prop where
 cx:Kept X W w
 lg:∀ id,Z id->id<w.heap.size
 jy:∀ id,Z0 id->Z id
 lh:∀ id,Z id->Z0 id\/W.heap.size<=id\/X.y id
 inj:∀ b b' id,μ b=some id->μ b'=some id->b=b'
 own:∀ b id,μ b=some id->W.heap.size<=id\/X id
 x0:∀ b id,μ b=some id->X.x id->b=0
 nV:∀ id,X id->id<W.heap.size
 x1:∀ id,X.x id->μ 0=some id
 ja:∀ b id blk,μ b=some id->H b=some blk->blk.mt=true->¬ Z id
 ca:∀ b id blk,μ b=some id->H b=some blk->blk.mt=false->Z id
 heap:∀ b id,μ b=some id->∃ blk,H b=some blk/\ug Z μ w blk id
def bK (P:Program) (T:TypeId) (n:Nat) (ag:Bool):Prop :=
 (P.info? T).map (·.size)=some n/\∃ d,P.underlying T=some d/\d.isRow=ag
def qM (P:Program):Nat->List Field->List (Nat × Bool)->Prop
 | _,[],[]=>True
 | off,f :: fs,(n,ag) :: r=>f.offset=off/\bK P f.type n ag/\qM P (off+n) fs r
 | _,_,_=>False
def kR (P:Program) (T:TypeId) (lay:List (Nat × Bool)):Prop :=
 ∃ fields,P.underlying T=some (.struct fields)/\qM P 0 fields.toList lay/\∀ n∈lay,0<n.1
def lay (x:LV):Nat × Bool:=(x.av,x.isAgg)
section
variable {P:Program} {Z:Nat->Prop} {μ:Nat->Option Nat} {w:World}
theorem adb {blk off:Nat} {c:Array Value} {T:TypeId} {fz:Nat × Nat} {part rest:List Value}
  (h:w.heap[blk]?=some (.cells c T fz)) (hd:c.toList.drop off=part++rest):w.rangeAt blk off part:=by
 intro j v hj
 rw [cell_of_row w blk (off+j) c T fz h]
 have h1:(c.toList.drop off)[j]?=some v:=by
  rw [hd,List.getElem?_append_left (oe.1 hj).1];exact hj
 rw [List.getElem?_drop] at h1
 simpa using h1
theorem asE {T:TypeId} {y:LV} {blk off:Nat} {c:Array Value} {U:TypeId} {fz:Nat × Nat} {part rest:List Value}
  (ht:bK P T y.av y.isAgg) (h:w.heap[blk]?=some (.cells c U fz)) (hd:c.toList.drop off=part++rest)
  (hy:aJ Z μ w y part) (bj:y≠.any) :
  ∃ v,(Instr.loadAt T (.pointer (some ⟨blk,off,none⟩))).run P w=.ok v w/\fN Z μ w y v:=by
 have hr:=adb h hd
 have hl:=aJ.len hy bj
 obtain⟨hi,d,hu,iP⟩:=ht
 refine⟨_,?_,fN.apn hy bj⟩
 cases ha:y.isAgg with
 | true =>
  have:=run_loadAt_mid (P:=P) w blk off T part d hr hu (by rw [iP,ha]) (by rw [hi,hl])
  simpa using this
 | false =>
  rw [LV.aho ha] at hl
  match part,hl,hr with
  | [x],_,hr =>
   have hx:=hr 0 x rfl
   have hag:(isAgg T).run P w=.ok false w:=by
    unfold isAgg
    rw [Sem.run_bind,run_underlying hu w]
    rw [ha] at iP
    cases d<;>simp_all [TypeDesc.isRow]
   simp [Instr.loadAt,Instr.sureAddr,loadVar,Sem.run_bind,hag,mg] at hx ⊢
   simp [hx]
theorem aye:∀ (fs:List Field) (ls:List LV) (off k:Nat) (f:Field) (x:LV),qM P off fs (ls.map lay)->fs[k]?=some f->ls[k]?=some x ->
  f.offset=off+cL (ls.take k)/\bK P f.type x.av x.isAgg
 | [],_,_,_,_,_,_,h,_=>by simp at h
 | _ :: _,[],_,_,_,_,_,_,h=>by simp at h
 | f :: fs,y :: ys,off,0,g,x,h,h1,h2=>by
   simp only [lI,lay,qM] at h
   simp only [sZ,fv] at h1 h2
   subst h1 h2
   exact⟨by simp [cL,h.1],h.2.1⟩
 | f :: fs,y :: ys,off,k+1,g,x,h,h1,h2=>by
   simp only [lI,lay,qM] at h
   have:=aye fs ys (off+y.av) k g x h.2.2 (by simpa using h1) (by simpa using h2)
   refine⟨?_,this.2⟩
   rw [this.1];simp [cL];omega
theorem amW:∀ (fs:List Field) (ls:List (Nat × Bool)) (off:Nat),qM P off fs ls->fs.length=ls.length
 | [],[],_,_=>rfl
 | [],_ :: _,_,h=>by simp [qM] at h
 | _ :: _,[],_,h=>by simp [qM] at h
 | f :: fs,(n,ag) :: r,off,h=>by
   simp only [qM] at h
   simp [amW fs r _ h.2.2]
theorem aI5 {T:TypeId} {n:Nat} {ag:Bool} (ht:bK P T n ag):(isAgg T).run P w=.ok ag w:=by
 obtain⟨hi,d,hd,rfl⟩:=ht
 unfold isAgg
 rw [Sem.run_bind,run_underlying hd w]
 cases d<;>simp [TypeDesc.isRow]
theorem run_sizeOf {T:TypeId} {n:Nat} {ag:Bool} (ht:bK P T n ag):(sizeOf T).run P w=.ok n w:=by
 obtain⟨hi,_⟩:=ht
 cases hq:P.info? T with
 | none=>simp [hq] at hi
 | some i =>
  simp only [hq,rz,fv] at hi
  subst hi
  simp [sizeOf,typeInfo,hq]
theorem auX {T:TypeId} {x:LV} (ht:bK P T x.av x.isAgg) {cs:Array Value} {pre ch post:List Value} (e1:cs.toList=pre++(ch++post))
  (h:aJ Z μ w x ch) (bj:x≠.any):∃ u,(part T cs pre.length).run P w=.ok u w/\fN Z μ w x u:=by
 have e3:=aJ.len h bj
 have jB:cs=(pre++(ch++post)).toArray:=by apply wa;simp [e1]
 refine⟨_,?_,fN.apn h bj⟩
 unfold part
 rw [Sem.run_bind,aI5 ht]
 cases ha:x.isAgg with
 | true =>
  simp only [Result.andThen_ok,if_true,Sem.run_bind,run_sizeOf ht,Sem.run_pure]
  congr 2
  apply wa
  rw [jB,<-e3]
  simp
 | false =>
  rw [LV.aho ha] at e3
  match ch,e3 with
  | [y],_ =>
   have:cs[pre.length]?=some y:=by rw [jB];simp
   simp [this]
theorem aAw {T:TypeId} {fs:List LV} {k:Nat} {x:LV} {v:Value} (ht:kR P T (fs.map lay)) (hx:fs[k]?=some x) (bj:x≠.any)
  (h:fN Z μ w (.agg fs) v):∃ u,(Instr.field T v k).run P w=.ok u w/\fN Z μ w x u:=by
 obtain⟨fields,hu,hl,_⟩:=ht
 obtain⟨cs,rfl,hc⟩:=h.1 rfl
 simp only [aJ] at hc
 obtain⟨pre,ch,post,e1,e2,e3,e4,_⟩:=cj.get fs cs.toList k x hc hx
 have hk:k<fields.toList.length:=by
  rw [amW _ _ _ hl,eD];exact(oe.1 hx).1
 obtain⟨f,hfk⟩:∃ f,fields.toList[k]?=some f:=⟨_,bY hk⟩
 obtain⟨g1,hty⟩:=aye fields.toList fs 0 k f x hl hfk hx
 have anF:fields[k]?=some f:=by rw [<-amf];exact hfk
 obtain⟨u,wo,lV⟩:=auX (T:=f.type) hty e1 e4 bj
 refine⟨u,?_,lV⟩
 have:f.offset=pre.length:=by omega
 simp only [Instr.field,Sem.run_bind,run_underlying hu,Result.andThen_ok,anF,asAgg,Sem.run_pure,this,wo]
def nu:List (Nat × Bool)->Nat
 | []=>0
 | x :: xs=>x.1+nu xs
theorem ahP:∀ (fs:List LV) (k:Nat),nu ((fs.map lay).take k)=cL (fs.take k)
 | [],k=>by simp [nu,cL]
 | x :: xs,0=>by simp [nu,cL]
 | x :: xs,k+1=>by simp [nu,cL,lay,<-ahP xs k]
theorem aqt:∀ (fs:List Field) (ls:List (Nat × Bool)) (off k:Nat) (f:Field) (x:Nat × Bool),qM P off fs ls->fs[k]?=some f->ls[k]?=some x ->
  f.offset=off+nu (ls.take k)/\bK P f.type x.1 x.2
 | [],_,_,_,_,_,_,h,_=>by simp at h
 | _ :: _,[],_,_,_,_,_,_,h=>by simp at h
 | f :: fs,(n,ag) :: ys,off,0,g,x,h,h1,h2=>by
   simp only [qM] at h
   simp only [sZ,fv] at h1 h2
   subst h1 h2
   exact⟨by simp [nu,h.1],h.2.1⟩
 | f :: fs,(n,ag) :: ys,off,k+1,g,x,h,h1,h2=>by
   simp only [qM] at h
   have:=aqt fs ys (off+n) k g x h.2.2 (by simpa using h1) (by simpa using h2)
   refine⟨?_,this.2⟩
   rw [this.1];simp [nu];omega
theorem ava {T:TypeId} {ls:List (Nat × Bool)} {k:Nat} (ht:kR P T ls) (qJ:k<ls.length) (b o:Nat) :
  (Instr.fieldAt T (.pointer (some ⟨b,o,none⟩)) k).run P w=.ok (.pointer (some ⟨b,o+nu (ls.take k),none⟩)) w:=by
 obtain⟨fields,hu,hl,kp⟩:=ht
 have hk:k<fields.toList.length:=by rw [amW _ _ _ hl];exact qJ
 obtain⟨f,hfk⟩:∃ f,fields.toList[k]?=some f:=⟨_,bY hk⟩
 have hx:ls[k]?=some ls[k]:=bY qJ
 obtain⟨g1,hty⟩:=aqt fields.toList ls 0 k f _ hl hfk hx
 have anF:fields[k]?=some f:=by rw [<-amf];exact hfk
 have hp:0<ls[k].1:=kp _ (sQ hx)
 have bj:¬ ls[k].1=0:=by omega
 simp only [Instr.fieldAt,Sem.run_bind,run_underlying hu,Result.andThen_ok,anF,Instr.sureAddr,Sem.run_pure,fieldPlace,run_sizeOf hty,Sem.run_ite,if_neg bj,g1,fg,Addr.add_mid]
end
end Go.Lg
namespace Go.Lg
def dM (op:BinOp) (k:IntKind) (a b:Int):Option Value :=
 match op with
 | .add=>some (.int k (k.wrap (a+b)))
 | .sub=>some (.int k (k.wrap (a-b)))
 | .mul=>some (.int k (k.wrap (a*b)))
 | .quo=>if b=0 then none else some (.int k (k.wrap (a.tdiv b)))
 | .rem=>if b=0 then none else some (.int k (a.tmod b))
 | .and=>some (.int k (k.wrap (tk k.bits a &&& tk k.bits b).toNat))
 | .or=>some (.int k (k.wrap (tk k.bits a ||| tk k.bits b).toNat))
 | .eql=>some (.bool (a==b))
 | .neq=>some (.bool (a != b))
 | .lss=>some (.bool (a<b))
 | .leq=>some (.bool (a<=b))
 | .gtr=>some (.bool (a > b))
 | .geq=>some (.bool (a>=b))
 | _=>none
def pe (op:BinOp) (k:IntKind) (a b:Int):Option Value :=
 if b<0 then none else
 match op with
 | .shl=>some (.int k (k.wrap (a*2 ^ min b.toNat k.bits)))
 | .shr=>some (.int k (a.fdiv (2 ^ min b.toNat k.bits)))
 | _=>none
def cF (P:Program) (T:TypeId) (z:LV):Prop :=
 ∃ i zv,P.info? T=some i/\i.zero=some zv/\z.pure=true/\∀ (Z:Nat->Prop) (μ:Nat->Option Nat) (w:World),aJ Z μ w z zv.cells.toList
def jK (zs:List LV) (ps:List (Nat × LV)):List LV:=ps.foldl (fun acc p=>acc.set p.1 p.2) zs
inductive aN (P:Program) (H:b9) (ρ:Operand->LV):Op->LV->Prop
 | move (x):aN P H ρ (.move x) (ρ x)
 | assign (x):aN P H ρ (.assign x) (ρ x)
 | pick {c x y t} (h:ρ c=.v (.bool t)):aN P H ρ (.pick c x y) (if t then ρ x else ρ y)
 | bin {op T x y U k a b r} (hx:ρ x=.v (.int k a)) (hy:ρ y=.v (.int k b)) (h:dM op k a b=some r):aN P H ρ (.binOp op T x y U) (.v r)
 | sh {op T x y U k k' a b r} (hx:ρ x=.v (.int k a)) (hy:ρ y=.v (.int k' b)) (h:pe op k a b=some r):aN P H ρ (.binOp op T x y U) (.v r)
 | beq {T x y U a b} (hx:ρ x=.v (.bool a)) (hy:ρ y=.v (.bool b)) (hT:P.underlying T=some .bool):aN P H ρ (.binOp .eql T x y U) (.v (.bool (a==b)))
 | bne {T x y U a b} (hx:ρ x=.v (.bool a)) (hy:ρ y=.v (.bool b)) (hT:P.underlying T=some .bool):aN P H ρ (.binOp .neq T x y U) (.v (.bool (!(a==b))))
 | not {T x a} (hx:ρ x=.v (.bool a)):aN P H ρ (.unOp .not T x) (.v (.bool !a))
 | neg {T x k a} (hx:ρ x=.v (.int k a)):aN P H ρ (.unOp .neg T x) (.v (.int k (k.wrap (0-a))))
 | conv {S D x k k' n d} (hS:P.underlying S=some d) (hD:P.underlying D=some (.int k)) (hx:ρ x=.v (.int k' n)):aN P H ρ (.convert S D x) (.v (.int k (k.wrap n)))
 | extract {t i l r} (ht:ρ t=.a9 l) (hr:l[i]?=some r) (bj:∀ m,r≠.a9 m):aN P H ρ (.extract t i) r
 | field {T x k fs r} (hx:ρ x=.agg fs) (hT:kR P T (fs.map lay)) (hr:fs[k]?=some r) (bj:r.pure=true):aN P H ρ (.field T x k) r
 | abt {T p k fs r} (hp:ρ p=.ba (.agg fs)) (hT:kR P T (fs.map lay)) (hr:fs[k]?=some r):aN P H ρ (.fieldAddr T p k) (.ba r)
 | adC {T p k b sz i o ls} (hp:ρ p=.aF b sz i o) (hT:kR P T ls) (hk:k<ls.length):aN P H ρ (.fieldAddr T p k) (.aF b sz i (o+nu (ls.take k)))
 | abz {T p c} (hp:ρ p=.ba c) (hT:bK P T c.av c.isAgg) (hc:c.pure=true):aN P H ρ (.load T p) c
 | dU {T p b sz i o blk x r n ag} (hp:ρ p=.aF b sz i o) (hb:H b=some blk) (hs:blk.sz=sz) (hi:blk.vals[i]?=some x) (hx:x.av=sz) (hr:x.at o n ag=some r)
   (hT:bK P T n ag):aN P H ρ (.load T p) r
 | afb {x b sz i o} (hx:ρ x=.aF b sz i o):aN P H ρ (.nilCheck x) (.aF b sz i o)
 | ahn {T E x i n fs k m r sz ag} (hx:ρ x=.agg fs) (hT:P.underlying T=some (.array n E)) (hE:bK P E sz ag) (hf:fs.map lay=aV n (sz,ag)) (hi:ρ i=.v (.int k m)) (h0:0<=m)
   (hr:fs[m.toNat]?=some r) (hp:r.pure=true):aN P H ρ (.index T x i) r
 | adZ {T E x j n b sz i o k m es ag} (hx:ρ x=.aF b sz i o) (hT:P.underlying T=some (.array n E)) (hE:bK P E es ag) (hi:ρ j=.v (.int k m)) (h0:0<=m) (hm:m<n) :
   aN P H ρ (.indexAddr T x j) (.aF b sz i (o+m.toNat*es))
 | adJ {T E x i n fs k m r sz ag} (hx:ρ x=.ba (.agg fs)) (hT:P.underlying T=some (.array n E)) (hE:bK P E sz ag) (hf:fs.map lay=aV n (sz,ag)) (hi:ρ i=.v (.int k m)) (h0:0<=m)
   (hr:fs[m.toNat]?=some r):aN P H ρ (.indexAddr T x i) (.ba r)
 | yT {T E zs ps n sz ag} (hT:P.underlying T=some (.array n E)) (hE:bK P E sz ag) (hf:∀ z∈zs,lay z=(sz,ag)) (hz:cF P T (.agg zs))
   (hp:∀ p∈ps.toList,∃ z,zs[p.1]?=some z/\lay (ρ p.2)=lay z/\ρ p.2≠.any/\∀ m,ρ p.2≠.a9 m) :
   aN P H ρ (.build T ps) (.agg (jK zs (ps.toList.map fun p=>(p.1,ρ p.2))))
 | aeN {x c} (hx:ρ x=.ba c):aN P H ρ (.nilCheck x) (.ba c)
 | gD {T E x i sz l k n r ag} (hx:ρ x=.list sz l) (hT:P.underlying T=some (.slice E)) (hE:bK P E sz ag) (hi:ρ i=.v (.int k n)) (h0:0<=n)
   (hr:l[n.toNat]?=some r) (hc:r.av=sz):aN P H ρ (.indexAddr T x i) (.ba r)
 | abp {T E x i b sz off len k n ag} (hx:ρ x=.ref b sz off len) (hT:P.underlying T=some (.slice E)) (hE:bK P E sz ag) (hi:ρ i=.v (.int k n)) (h0:0<=n)
   (hn:n<len):aN P H ρ (.indexAddr T x i) (.aF b sz (off+n.toNat) 0)
 | adA {T E x sz ag l a h la ha} (hx:ρ x=.list sz l) (hT:P.underlying T=some (.slice E)) (hE:bK P E sz ag) (cq:∀ y,la=some y->∃ k,ρ y=.v (.int k (a:Nat)))
   (qg:la=none->a=0) (iZ:∀ y,ha=some y->∃ k,ρ y=.v (.int k (h:Nat))) (ud:ha=none->h=l.length) (h1:a<=h) (h2:h<=l.length) :
   aN P H ρ (.slice T x la ha none) (.list sz ((l.take h).drop a))
 | wj {T E x b sz off len ag a h la ha} (hx:ρ x=.ref b sz off len) (hT:P.underlying T=some (.slice E)) (hE:bK P E sz ag) (cq:∀ y,la=some y->∃ k,ρ y=.v (.int k (a:Nat)))
   (qg:la=none->a=0) (iZ:∀ y,ha=some y->∃ k,ρ y=.v (.int k (h:Nat))) (ud:ha=none->h=len) (h1:a<=h) (h2:h<=len) (kp:a<len) :
   aN P H ρ (.slice T x la ha none) (.ref b sz (off+a) (h-a))
 | afJ {T E x b sz off len ag a h mx la z zm k k'} (hx:ρ x=.ref b sz off len) (hT:P.underlying T=some (.slice E)) (hE:bK P E sz ag) (cq:∀ y,la=some y->∃ k,ρ y=.v (.int k (a:Nat)))
   (qg:la=none->a=0) (iZ:ρ z=.v (.int k (h:Nat))) (hmx:ρ zm=.v (.int k' (mx:Nat))) (h1:a<=h) (h2:h<=mx) (h3:mx<=len) (kp:a<mx) :
   aN P H ρ (.slice T x la (some z) (some zm)) (.ref b sz (off+a) (h-a))
 | abK {T x sz l d as} (hx:ρ x=.list sz l) (has:as=#[T]) (hT:P.underlying T=some (.slice d)):aN P H ρ (.call ⟨.builtin .len,#[x],as⟩) (.v (.int .i64 (l.length:Nat)))
 | ac4 {T x b sz off len d as} (hx:ρ x=.ref b sz off len) (has:as=#[T]) (hT:P.underlying T=some (.slice d)):aN P H ρ (.call ⟨.builtin .len,#[x],as⟩) (.v (.int .i64 (len:Nat)))
 | acK {T x d as} (hx:ρ x=.v (.slice none 0 0)) (has:as=#[T]) (hT:P.underlying T=some (.slice d)):aN P H ρ (.call ⟨.builtin .len,#[x],as⟩) (.v (.int .i64 (0:Nat)))
 | adg {T x b sz off len cp d as} (hx:ρ x=.jY b sz off len cp) (has:as=#[T]) (hT:P.underlying T=some (.slice d)):aN P H ρ (.call ⟨.builtin .len,#[x],as⟩) (.v (.int .i64 (len:Nat)))
 | ad8 {T x b sz off len cp d as} (hx:ρ x=.jY b sz off len cp) (has:as=#[T]) (hT:P.underlying T=some (.slice d)):aN P H ρ (.call ⟨.builtin .cap,#[x],as⟩) (.v (.int .i64 (cp:Nat)))
 | adN {T E x b sz off len cp ag a h la ha} (hx:ρ x=.jY b sz off len cp) (hT:P.underlying T=some (.slice E)) (hE:bK P E sz ag) (cq:∀ y,la=some y->∃ k,ρ y=.v (.int k (a:Nat)))
   (qg:la=none->a=0) (iZ:∀ y,ha=some y->∃ k,ρ y=.v (.int k (h:Nat))) (ud:ha=none->h=len) (h1:a<=h) (h2:h<=cp) (kp:a<cp) :
   aN P H ρ (.slice T x la ha none) (.jY b sz (off+a) (h-a) (cp-a))
 | min2 {x y k a b as} (hx:ρ x=.v (.int k a)) (hy:ρ y=.v (.int k b)):aN P H ρ (.call ⟨.builtin .min,#[x,y],as⟩) (.v (.int k (if b<a then b else a)))
 | max2 {x y k a b as} (hx:ρ x=.v (.int k a)) (hy:ρ y=.v (.int k b)):aN P H ρ (.call ⟨.builtin .max,#[x,y],as⟩) (.v (.int k (if b > a then b else a)))
 | ahz {T x i s k n b} (hx:ρ x=.v (.string s)) (hT:P.underlying T=some .string) (hi:ρ i=.v (.int k n)) (h0:0<=n) (hb:s[n.toNat]?=some b):aN P H ρ (.index T x i) (.v (.int .u8 b.toNat))
 | adq {f xs as fn e} {vs:List Value} {r1 r2} (hf:P.funcs[f]?=some fn) (uE:(fn.name== "runtime.NumGoroutine")=false) (hb:fn.body.isNone=true) (hn:Extern.findNext fn=none) (he:Extern.find fn=some e)
   (hx:xs.toList.map ρ=vs.map LV.v) (hr:∀ w:World,(e vs.toArray).run P w=.ok (.tuple #[r1,r2]) w) (h1:r1.oneCell'=true) (h2:r2.oneCell'=true) :
   aN P H ρ (.call ⟨.value (.func f),xs,as⟩) (.a9 [.v r1,.v r2])
 | eqN {T x y U d} (hx:ρ x=.v (.slice none 0 0)) (hy:ρ y=.v (.slice none 0 0)) (hT:P.underlying T=some (.slice d)):aN P H ρ (.binOp .eql T x y U) (.v (.bool true))
 | abX {T x y U sz v l d} (hx:ρ x=.list sz (v :: l)) (hy:ρ y=.v (.slice none 0 0)) (hT:P.underlying T=some (.slice d)):aN P H ρ (.binOp .eql T x y U) (.v (.bool false))
 | build {T zs ps} (hT:kR P T (zs.map lay)) (hz:cF P T (.agg zs)) (hp:∀ p∈ps.toList,∃ z,zs[p.1]?=some z/\lay (ρ p.2)=lay z/\ρ p.2≠.any/\∀ m,ρ p.2≠.a9 m) :
   aN P H ρ (.build T ps) (.agg (jK zs (ps.toList.map fun p=>(p.1,ρ p.2))))
section
variable {P:Program} {Z:Nat->Prop} {μ:Nat->Option Nat} {w:World}
theorem bu.int {k:IntKind} {n:Int}:bu Z μ w (.v (.int k n)) (.int k n):=⟨by simp [LV.isAgg],fun _=>by simp [aJ,Value.oneCell']⟩
theorem bu.bool {b:Bool}:bu Z μ w (.v (.bool b)) (.bool b):=⟨by simp [LV.isAgg],fun _=>by simp [aJ,Value.oneCell']⟩
theorem bu.fk {x v:Value} (h:bu Z μ w (.v x) v):v=x:=by
 have:=h.2 rfl
 simp only [aJ] at this
 simpa using this.1
theorem bu.v {x:Value} (h:x.oneCell'=true):bu Z μ w (.v x) x:=⟨by simp [LV.isAgg],fun _=>by simp [aJ,h]⟩
theorem aH3 {op:BinOp} {k:IntKind} {a b:Int} {r:Value} (h:dM op k a b=some r):r.oneCell'=true:=by
 cases op<;>simp [dM] at h<;>first | (subst h;rfl) | (obtain⟨_,rfl⟩:=h;rfl)
theorem ay7 {op:BinOp} {k:IntKind} {a b:Int} {r:Value} (h:pe op k a b=some r):r.oneCell'=true:=by
 unfold pe at h
 split at h
 ·simp at h
 ·cases op<;>simp at h<;>(subst h;rfl)
theorem aFF {op:BinOp} {T:TypeId} {x y:Operand} {k:IntKind} {a b:Int} {r:Value} (h:dM op k a b=some r) :
  (do eqGuard op T x y (.int k a) (.int k b);binOp op T (.int k a) (.int k b):Sem Value).run P w=.ok r w:=by
 cases op<;>simp [dM] at h<;>simp [eqGuard,binOp,Op.intArith,Op.intDiv,Op.intBits,Op.intCmp] <;>
  first
   | (subst h;rfl)
   | (obtain⟨h1,rfl⟩:=h;simp [h1])
   | skip
theorem aAk {op:BinOp} {T:TypeId} {x y:Operand} {k k':IntKind} {a b:Int} {r:Value} (h:pe op k a b=some r) :
  (do eqGuard op T x y (.int k a) (.int k' b);binOp op T (.int k a) (.int k' b):Sem Value).run P w=.ok r w:=by
 unfold pe at h
 split at h
 ·simp at h
 ·rename_i hb
  cases op<;>simp at h<;>subst h<;>simp [eqGuard,binOp,Op.shift,hb]
theorem atO (off:Nat):∀ (vs:List Value) (i:Nat) (cells:Array Value),off+i+vs.length<=cells.size ->
  ((vs.zipIdx i).foldl (fun cs p=>cs.setIfInBounds (off+p.2) p.1) cells).toList=cells.toList.take (off+i)++(vs++cells.toList.drop (off+i+vs.length))
 | [],i,cells,h=>by simp
 | v :: vs,i,cells,h=>by
   simp only [l8] at h
   simp only [List.zipIdx_cons,List.foldl_cons]
   rw [atO off vs (i+1) _ (by rw [Array.size_setIfInBounds];omega)]
   have e:off+(i+1)=(off+i)+1:=by omega
   rw [e,Array.toList_setIfInBounds,List.take_succ_eq_append_getElem bq,List.getElem_set_self,List.take_set_of_le J,List.drop_set_of_lt J]
   have e2:off+i+1+vs.length=off+i+(vs.length+1):=by omega
   rw [e2]
   simp
theorem ais {ls:List (Nat × Bool)} (place:Nat->Option (Nat × Nat)) (jf:∀ k n,ls[k]?=some n->place k=some (nu (ls.take k),n.1)) :
  ∀ (ps:List (Nat × Value)) (qs:List (Nat × LV)) (zs:List LV) (cells:Array Value),zs.map lay=ls->cj Z μ w zs cells.toList ->
   ps.map (·.1)=qs.map (·.1)->(∀ (j:Nat) (p:Nat × Value) (q:Nat × LV),ps[j]?=some p->qs[j]?=some q->fN Z μ w q.2 p.2/\q.2≠LV.any) ->
   (∀ q∈qs,∃ n,ls[q.1]?=some n/\lay q.2=n) ->
   ∃ cs,Instr.fill place cells ps=some cs/\cj Z μ w (jK zs qs) cs.toList
 | [],[],zs,cells,_,hr,_,_,_=>⟨cells,rfl,hr⟩
 | [],_ :: _,_,_,_,_,h,_,_=>by simp at h
 | _ :: _,[],_,_,_,_,h,_,_=>by simp at h
 | (k,v) :: ps,(k',x) :: qs,zs,cells,hz,hr,hk,hv,hq=>by
   simp only [lI,gj] at hk
   obtain⟨rfl,hk⟩:=hk
   obtain⟨n,hn,hxn⟩:=hq (k,x) aW
   obtain⟨hxv,hxa⟩:=hv 0 (k,v) (k,x) rfl rfl
   obtain⟨c1,c2,c3,_⟩:=hxv.cells hxa
   have hn':=hn
   simp only at hn hxn
   rw [<-hz,gZ] at hn
   obtain⟨z,hzk,hzn⟩:∃ z,zs[k]?=some z/\lay z=n:=by
    cases h:zs[k]? with
    | none=>simp [h] at hn
    | some z=>exact⟨z,rfl,by simpa [h] using hn⟩
   obtain⟨pre,ch,post,e1,e2,e3,e4,e5⟩:=cj.get zs cells.toList k z hr hzk
   have bT:v.cells.size=n.1:=by rw [c2,<-hxn];rfl
   have aLZ:ch.length=n.1:=by rw [e3,<-hzn];rfl
   have so:nu (ls.take k)=pre.length:=by rw [<-hz,ahP,e2]
   have jB:cells.size=pre.length+(ch.length+post.length):=by
    rw [<-nM,e1];simp
   simp only [Instr.fill,jf k n hn',so]
   have aEQ:¬ ((decide (v.cells.size≠n.1) || decide (pre.length+v.cells.size > cells.size))=true):=by
    simp only [Bool.or_eq_true,decide_eq_true_eq,not_or,aEf]
    omega
   rw [if_neg aEQ]
   have hf:=atO pre.length v.cells.toList 0 cells bq
   have mF:(v.cells.zipIdx.foldl (fun cs p=>cs.setIfInBounds (pre.length+p.2) p.1) cells).toList=pre++(v.cells.toList++post):=by
    rw [<-Array.foldl_toList,Array.toList_zipIdx]
    rw [hf,e1]
    simp only [mg,nM,List.take_left]
    rw [axO,kB J,afv]
    congr 2
    rw [axO,kB J,afv]
    have:pre.length+v.cells.size-pre.length-ch.length=0:=by omega
    rw [this];rfl
   have ack:=e5 x v.cells.toList c1 (by simp [c2])
   rw [<-mF] at ack
   refine ais place jf ps qs (zs.set k x) _ ?_ ack hk (fun j p q hp hq=>hv (j+1) p q (by simpa using hp) (by simpa using hq)) (fun q h=>hq q (by simp [h]))
   rw [List.map_set,hz,hxn]
   refine List.ext_getElem? fun j=>?_
   by_cases hj:k=j
   ·subst hj;rw [List.getElem?_set_self (oe.1 hn').1,hn']
   ·rw [List.getElem?_set_ne hj]
end
end Go.Lg
namespace Go.Lg
section
variable {P:Program} {Z:Nat->Prop} {μ:Nat->Option Nat} {w:World} {H:b9} {ρ:Operand->LV} {a:Act}
theorem fW.get:∀ (l:List LV) (vs:List Value) (i:Nat) (x:LV),fW Z μ w l vs->l[i]?=some x->∃ v,vs[i]?=some v/\fN Z μ w x v
 | [],_,_,_,_,h=>by simp at h
 | y :: ys,_,0,x,⟨v,jP,e,h1,h2⟩,hi=>by
   simp only [sZ,fv] at hi
   subst hi e
   exact⟨v,by simp,h1⟩
 | y :: ys,_,i+1,x,⟨v,jP,e,h1,h2⟩,hi=>by
   subst e
   have:=fW.get ys jP i x h2 (by simpa using hi)
   simpa using this
theorem anM {sz:Nat} {l:List LV} {i:Nat} {r:LV} {off:Nat} {c:Array Value} {part rest:List Value}
  (hd:c.toList.drop off=part++rest) (hr:a6 Z μ w sz l part) (hi:l[i]?=some r) :
  ∃ ch post,c.toList.drop (off+i*sz)=ch++post/\ch.length=sz/\aJ Z μ w r ch:=by
 obtain⟨pre,ch,post,e1,e2,e3,e4,_⟩:=a6.get l part i r hr hi
 refine⟨ch,post++rest,?_,e3,e4⟩
 rw [<-qL,hd,e1,<-e2]
 simp
theorem run_indexAt_slice {T E:TypeId} {sz:Nat} {ag:Bool} (hT:P.underlying T=some (.slice E)) (hE:bK P E sz ag) (k:IntKind) (n:Int) (len cap b off:Nat) (h0:0<=n) (h1:n<len) :
  (Instr.indexAt T (.slice (some ⟨b,off,none⟩) len cap) (.int k n)).run P w=.ok (.pointer (some ⟨b,off+n.toNat*sz,none⟩)) w:=by
 have h2:(0<=n/\n<(len:Int)):=⟨h0,h1⟩
 simp [Instr.indexAt,asIntOf,run_underlying hT,run_sizeOf hE,h2,Addr.add_mid]
theorem run_equal_bool {T:TypeId} (hT:P.underlying T=some .bool) (i j:Bool):(Op.equal T (.bool i) (.bool j)).run P w=.ok (i==j) w:=by
 have h:∀ d,(Op.equalIn (d+1) T (.bool i) (.bool j)).run P w=.ok (i==j) w:=fun d=>by
  simp only [Op.equalIn,Sem.run_bind,run_underlying hT,Result.andThen_ok,Sem.run_pure]
 exact h 9999
theorem aEJ {T:TypeId} (hT:P.underlying T=some .bool) {x y:Operand} (i j:Bool) :
  (do eqGuard .eql T x y (.bool i) (.bool j);binOp .eql T (.bool i) (.bool j):Sem Value).run P w=.ok (.bool (i==j)) w:=by
 have h1:(eqGuard .eql T x y (.bool i) (.bool j)).run P w=.ok () w:=by simp [eqGuard]
 have h2:(binOp .eql T (.bool i) (.bool j)).run P w=.ok (.bool (i==j)) w:=by
  simp only [binOp]
  rw [Sem.run_bind,run_equal_bool hT];rfl
 rw [Sem.run_bind,h1];exact h2
theorem aC8 {T:TypeId} (hT:P.underlying T=some .bool) {x y:Operand} (i j:Bool) :
  (do eqGuard .neq T x y (.bool i) (.bool j);binOp .neq T (.bool i) (.bool j):Sem Value).run P w=.ok (.bool (!(i==j))) w:=by
 have h1:(eqGuard .neq T x y (.bool i) (.bool j)).run P w=.ok () w:=by simp [eqGuard]
 have h2:(binOp .neq T (.bool i) (.bool j)).run P w=.ok (.bool (!(i==j))) w:=by
  simp only [binOp]
  rw [Sem.run_bind,run_equal_bool hT];rfl
 rw [Sem.run_bind,h1];exact h2
theorem aBq {T d:TypeId} (hT:P.underlying T=some (.slice d)) (a:Option Addr) (n c:Nat):(Op.equal T (.slice a n c) (.slice none 0 0)).run P w=.ok (a.isNone) w:=by
 have h:∀ k,(Op.equalIn (k+1) T (.slice a n c) (.slice none 0 0)).run P w=.ok (a.isNone) w:=fun k=>by
  cases a<;>simp only [Op.equalIn,Sem.run_bind,run_underlying hT,Result.andThen_ok,Sem.run_pure]<;>rfl
 exact h 9999
theorem ath {T d:TypeId} (hT:P.underlying T=some (.slice d)) {x y:Operand} (a:Option Addr) (n c:Nat) :
  (do eqGuard .eql T x y (.slice a n c) (.slice none 0 0);binOp .eql T (.slice a n c) (.slice none 0 0):Sem Value).run P w=.ok (.bool a.isNone) w:=by
 have h1:(eqGuard .eql T x y (.slice a n c) (.slice none 0 0)).run P w=.ok () w:=by simp [eqGuard]
 have h2:(binOp .eql T (.slice a n c) (.slice none 0 0)).run P w=.ok (.bool a.isNone) w:=by
  simp only [binOp]
  rw [Sem.run_bind,aBq hT];rfl
 rw [Sem.run_bind,h1];exact h2
theorem aoh (isS:Bool) (len cap:Nat) (la ha:Option Value) (a h:Nat) (cq:∀ y,la=some y->∃ k,y=.int k (a:Nat)) (qg:la=none->a=0)
  (iZ:∀ y,ha=some y->∃ k,y=.int k (h:Nat)) (ud:ha=none->h=len) (h1:a<=h) (h2:h<=cap) :
  (Instr.sliceBounds isS len cap la ha none).run P w=.ok (a,h,cap) w:=by
 have e1:∀ (k:IntKind) (c:BoundsCode),(Instr.sliceBound (.int k (h:Nat)) cap c).run P w=.ok h w:=fun k c=>by
  have:=run_sliceBound (P:=P) w k (h:Int) cap c J J
  simpa using this
 have e2:∀ (k:IntKind) (c:BoundsCode),(Instr.sliceBound (.int k (a:Nat)) h c).run P w=.ok a w:=fun k c=>by
  have:=run_sliceBound (P:=P) w k (a:Int) h c J J
  simpa using this
 cases la with
 | none =>
  have:=qg rfl
  subst this
  cases ha with
  | none=>have:=ud rfl;subst this;simp [Instr.sliceBounds]
  | some y=>obtain⟨k,rfl⟩:=iZ y rfl;simp [Instr.sliceBounds,e1]
 | some x =>
  obtain⟨k',rfl⟩:=cq x rfl
  cases ha with
  | none=>have:=ud rfl;subst this;simp [Instr.sliceBounds,e2]
  | some y=>obtain⟨k,rfl⟩:=iZ y rfl;simp [Instr.sliceBounds,e1,e2]
theorem aEa (len cap:Nat) (la:Option Value) (a h m:Nat) (k k':IntKind) (cq:∀ y,la=some y->∃ k,y=.int k (a:Nat)) (qg:la=none->a=0) (h1:a<=h) (h2:h<=m) (h3:m<=cap) :
  (Instr.sliceBounds true len cap la (some (.int k (h:Nat))) (some (.int k' (m:Nat)))).run P w=.ok (a,h,m) w:=by
 have e0:∀ (c:BoundsCode),(Instr.sliceBound (.int k' (m:Nat)) cap c).run P w=.ok m w:=fun c=>by
  have:=run_sliceBound (P:=P) w k' (m:Int) cap c J J
  simpa using this
 have e1:∀ (c:BoundsCode),(Instr.sliceBound (.int k (h:Nat)) m c).run P w=.ok h w:=fun c=>by
  have:=run_sliceBound (P:=P) w k (h:Int) m c J J
  simpa using this
 have e2:∀ (k:IntKind) (c:BoundsCode),(Instr.sliceBound (.int k (a:Nat)) h c).run P w=.ok a w:=fun k c=>by
  have:=run_sliceBound (P:=P) w k (a:Int) h c J J
  simpa using this
 cases la with
 | none =>
  have:=qg rfl
  subst this
  simp [Instr.sliceBounds,e0,e1]
 | some x =>
  obtain⟨k',rfl⟩:=cq x rfl
  simp [Instr.sliceBounds,e0,e1,e2]
theorem axy:∀ (fs:List Field) (ls:List (Nat × Bool)) (off:Nat),qM P off fs ls ->
  ∃ pl:List (Nat × Nat),(fs.mapM fun f=>do pure (f.offset,<-sizeOf f.type):Sem (List (Nat × Nat))).run P w=.ok pl w/\∀ k n,ls[k]?=some n->pl[k]?=some (off+nu (ls.take k),n.1)
 | [],[],_,_=>⟨[],rfl,fun k n h=>by simp at h⟩
 | [],_ :: _,_,h=>by simp [qM] at h
 | _ :: _,[],_,h=>by simp [qM] at h
 | f :: fs,(n,ag) :: r,off,h=>by
   simp only [qM] at h
   obtain⟨h1,h2,h3⟩:=h
   obtain⟨pl,e1,e2⟩:=axy fs r (off+n) h3
   refine⟨(off,n) :: pl,?_,?_⟩
   ·simp only [List.mapM_cons,Sem.run_bind,run_sizeOf h2,Result.andThen_ok,Sem.run_pure,e1,h1]
   ·intro k m hk
    cases k with
    | zero=>simp at hk;subst hk;simp [nu]
    | succ k =>
     have:=e2 k m (by simpa using hk)
     simp only [List.getElem?_cons_succ,this,rq,nu]
     congr 2;omega
theorem ahG {n sz:Nat} {ag:Bool}:∀ (fs:List LV) (k:Nat),(∀ z∈fs,lay z=(sz,ag))->k<=fs.length->cL (fs.take k)=k*sz
 | _,0,_,_=>by simp [cL]
 | [],k+1,_,h=>by simp at h
 | x :: xs,k+1,h,hk=>by
  have h1:x.av=sz:=by have:=h x aW;simp only [lay,afW] at this;exact this.1
  rw [rq,cL,h1,ahG (n:=n) xs k (fun z hz=>h z (by simp [hz])) (by simpa using hk),Nat.succ_mul,Nat.add_comm]
theorem ax4 {fs:List LV} {n sz:Nat} {ag:Bool} (h:fs.map lay=aV n (sz,ag)):fs.length=n/\∀ z∈fs,lay z=(sz,ag):=by
 refine⟨by have:=congrArg List.length h;simpa using this,fun z hz=>?_⟩
 have:lay z∈fs.map lay:=List.mem_map_of_mem hz
 rw [h] at this
 exact(List.mem_replicate.1 this).2
theorem run_indexAt_array {T E:TypeId} {n sz:Nat} {ag:Bool} (hT:P.underlying T=some (.array n E)) (hE:bK P E sz ag) (k:IntKind) (m:Int) (b off:Nat) (h0:0<=m) (h1:m<n) :
  (Instr.indexAt T (.pointer (some ⟨b,off,none⟩)) (.int k m)).run P w=.ok (.pointer (some ⟨b,off+m.toNat*sz,none⟩)) w:=by
 have h2:(0<=m/\m<(n:Int)):=⟨h0,h1⟩
 simp [Instr.indexAt,Instr.sureAddr,asIntOf,run_underlying hT,run_sizeOf hE,h2,Addr.add_mid]
theorem azM {T E:TypeId} {n sz:Nat} {ag:Bool} {fs:List LV} {x:LV} {v:Value} {k:IntKind} {m:Int} (hT:P.underlying T=some (.array n E)) (hE:bK P E sz ag) (hf:fs.map lay=aV n (sz,ag)) (h0:0<=m)
  (hx:fs[m.toNat]?=some x) (bj:x≠.any) (h:fN Z μ w (.agg fs) v):∃ u,(Instr.index T v (.int k m)).run P w=.ok u w/\fN Z μ w x u:=by
 obtain⟨hl,hly⟩:=ax4 hf
 obtain⟨cs,rfl,hc⟩:=h.1 rfl
 simp only [aJ] at hc
 obtain⟨pre,ch,post,e1,e2,e3,e4,_⟩:=cj.get fs cs.toList m.toNat x hc hx
 have hk:=(oe.1 hx).1
 have hxl:=hly x (sQ hx)
 simp only [lay,afW] at hxl
 obtain⟨u,wo,lV⟩:=auX (T:=E) (by rw [hxl.1,hxl.2];exact hE) e1 e4 bj
 refine⟨u,?_,lV⟩
 have so:m.toNat*sz=pre.length:=by rw [e2,ahG (n:=n) fs m.toNat hly J]
 have h2:(0<=m/\m<(n:Int)):=⟨h0,J⟩
 simp only [Instr.index,asIntOf,Sem.run_bind,Sem.run_pure,Result.andThen_ok,run_underlying hT,if_pos h2,run_sizeOf hE,so]
 simpa using wo
theorem azQ {T E:TypeId} {zs:List LV} {ps:Array (Nat × Operand)} {n sz:Nat} {ag:Bool} (hT:P.underlying T=some (.array n E)) (hE:bK P E sz ag) (hf:∀ z∈zs,lay z=(sz,ag)) (hz:cF P T (.agg zs))
  (hp:∀ p∈ps.toList,∃ z,zs[p.1]?=some z/\lay (ρ p.2)=lay z/\ρ p.2≠.any/\∀ m,ρ p.2≠.a9 m) (cO:∀ p∈ps.toList,bu Z μ w (ρ p.2) (a.eval p.2)) :
  ∃ v,(Instr.build T (ps.map fun(i,x)=>(i,a.eval x))).run P w=.ok v w/\bu Z μ w (.agg (jK zs (ps.toList.map fun p=>(p.1,ρ p.2)))) v:=by
 obtain⟨i,zv,z1,z2,_,z3⟩:=hz
 have wv:=z3 Z μ w
 simp only [aJ] at wv
 obtain⟨cs,f1,f2⟩:=ais (Z:=Z) (μ:=μ) (w:=w) (ls:=zs.map lay) (fun k=>some (k*sz,sz)) (fun k n hk=>by
   rw [gZ,zc] at hk
   obtain⟨z,hz,rfl⟩:=hk
   have hk:=(oe.1 hz).1
   have nY:=hf z (sQ hz)
   rw [nY,ahP,ahG (n:=0) zs k hf J])
  (ps.toList.map fun p=>(p.1,a.eval p.2)) (ps.toList.map fun p=>(p.1,ρ p.2)) zs zv.cells rfl wv aW
  (fun j p q ju tO=>by
   simp only [gZ,zc] at ju tO
   obtain⟨x,hx,rfl⟩:=ju
   obtain⟨y,hy,rfl⟩:=tO
   rw [hx] at hy;cases hy
   have hm:=sQ hx
   obtain⟨z,_,_,h3,h4⟩:=hp x hm
   exact⟨bu.yi h4 h3 (cO x hm),h3⟩)
  (fun q hq=>by
   simp only [ga] at hq
   obtain⟨x,hx,rfl⟩:=hq
   obtain⟨z,h1,h2,_⟩:=hp x hx
   exact⟨lay z,by simp [gZ,h1],h2⟩)
 refine⟨.agg cs,?_,⟨fun _=>⟨cs,rfl,by simpa [aJ] using f2⟩,by simp [LV.isAgg]⟩⟩
 have zb:(zeroValue T).run P w=.ok zv w:=by simp [zeroValue,typeInfo,z1,z2]
 simp only [Instr.build,Sem.run_bind,zb,Result.andThen_ok,run_underlying hT,run_sizeOf hE]
 have:(afd (fun x=>match x with | (i,x)=>(i,a.eval x)) ps).toList=ps.toList.map fun p=>(p.1,a.eval p.2):=by simp
 rw [this,f1];rfl
theorem aGD {T:TypeId} {zs:List LV} {ps:Array (Nat × Operand)} (hT:kR P T (zs.map lay)) (hz:cF P T (.agg zs))
  (hp:∀ p∈ps.toList,∃ z,zs[p.1]?=some z/\lay (ρ p.2)=lay z/\ρ p.2≠.any/\∀ m,ρ p.2≠.a9 m) (cO:∀ p∈ps.toList,bu Z μ w (ρ p.2) (a.eval p.2)) :
  ∃ v,(Instr.build T (ps.map fun(i,x)=>(i,a.eval x))).run P w=.ok v w/\bu Z μ w (.agg (jK zs (ps.toList.map fun p=>(p.1,ρ p.2)))) v:=by
 obtain⟨i,zv,z1,z2,_,z3⟩:=hz
 obtain⟨fields,hu,hl,kp⟩:=hT
 have wv:=z3 Z μ w
 simp only [aJ] at wv
 obtain⟨pl,e1,e2⟩:=axy (P:=P) (w:=w) fields.toList _ 0 hl
 obtain⟨cs,f1,f2⟩:=ais (Z:=Z) (μ:=μ) (w:=w) (ls:=zs.map lay) (fun k=>pl.toArray[k]?) (fun k n hk=>by simpa using e2 k n hk)
  (ps.toList.map fun p=>(p.1,a.eval p.2)) (ps.toList.map fun p=>(p.1,ρ p.2)) zs zv.cells rfl wv aW
  (fun j p q ju tO=>by
   simp only [gZ,zc] at ju tO
   obtain⟨x,hx,rfl⟩:=ju
   obtain⟨y,hy,rfl⟩:=tO
   rw [hx] at hy;cases hy
   have hm:=sQ hx
   obtain⟨z,_,_,h3,h4⟩:=hp x hm
   exact⟨bu.yi h4 h3 (cO x hm),h3⟩)
  (fun q hq=>by
   simp only [ga] at hq
   obtain⟨x,hx,rfl⟩:=hq
   obtain⟨z,h1,h2,_⟩:=hp x hx
   exact⟨lay z,by simp [gZ,h1],h2⟩)
 refine⟨.agg cs,?_,⟨fun _=>⟨cs,rfl,by simpa [aJ] using f2⟩,by simp [LV.isAgg]⟩⟩
 have jf:(fields.mapM fun f=>do pure (f.offset,<-sizeOf f.type):Sem (Array (Nat × Nat))).run P w=.ok pl.toArray w:=by
  rw [Array.mapM_eq_mapM_toList,Sem.run_map,e1];rfl
 have zb:(zeroValue T).run P w=.ok zv w:=by simp [zeroValue,typeInfo,z1,z2]
 simp only [Instr.build,Sem.run_bind,zb,Result.andThen_ok,run_underlying hu,jf]
 have:(afd (fun x=>match x with | (i,x)=>(i,a.eval x)) ps).toList=ps.toList.map fun p=>(p.1,a.eval p.2):=by simp
 rw [this,f1];rfl
set_option maxHeartbeats 2000000 in
theorem aN.sound {op:Op} {r:LV} (ho:aN P H ρ op r) (cO:∀ x∈op.operands,bu Z μ w (ρ x) (a.eval x))
  (hh:∀ b id,μ b=some id->∃ blk,H b=some blk/\ug Z μ w blk id) (dst:Option Tmp) (ty:TypeId) (pos:String) (after:Array Edge) (g:Option (Nat × Bool)) :
  ∃ v,(execOp a.eval ⟨dst,op,ty,pos,after,g⟩).run P w=.ok (.value v) w/\bu Z μ w r v:=by
 cases ho with
 | move x=>exact⟨a.eval x,rfl,cO x ck⟩
 | assign x=>exact⟨a.eval x,rfl,cO x ck⟩
 | @pick c x y t h =>
  have hc:=cO c ck;rw [h] at hc
  have hc:=hc.fk
  refine⟨if t then a.eval x else a.eval y,by cases t<;>simp [execOp,hc,asBool],?_⟩
  cases t
  ·simpa using cO y ck
  ·simpa using cO x ck
 | @bin op T x y U k i j r hx hy h =>
  have e1:=cO x ck;rw [hx] at e1;have e1:=e1.fk
  have e2:=cO y ck;rw [hy] at e2;have e2:=e2.fk
  refine⟨r,?_,bu.v (aH3 h)⟩
  have:=aFF (P:=P) (w:=w) (T:=T) (x:=x) (y:=y) h
  simp only [execOp,e1,e2]
  rw [Sem.run_bind,this];rfl
 | @sh op T x y U k k' i j r hx hy h =>
  have e1:=cO x ck;rw [hx] at e1;have e1:=e1.fk
  have e2:=cO y ck;rw [hy] at e2;have e2:=e2.fk
  refine⟨r,?_,bu.v (ay7 h)⟩
  have:=aAk (P:=P) (w:=w) (T:=T) (x:=x) (y:=y) (k':=k') h
  simp only [execOp,e1,e2]
  rw [Sem.run_bind,this];rfl
 | @beq T x y U i j hx hy hT =>
  have e1:=cO x ck;rw [hx] at e1;have e1:=e1.fk
  have e2:=cO y ck;rw [hy] at e2;have e2:=e2.fk
  exact⟨.bool (i==j),by simp only [execOp,e1,e2];rw [Sem.run_bind,aEJ hT];rfl,bu.bool⟩
 | @eqN T x y U d hx hy hT =>
  have e1:=cO x ck;rw [hx] at e1;have e1:=e1.fk
  have e2:=cO y ck;rw [hy] at e2;have e2:=e2.fk
  exact⟨.bool true,by simp only [execOp,e1,e2];rw [Sem.run_bind,ath hT];rfl,bu.bool⟩
 | @abX T x y U sz v l d hx hy hT =>
  have e1:=cO x ck;rw [hx] at e1
  have e2:=cO y ck;rw [hy] at e2;have e2:=e2.fk
  have e3:=e1.2 rfl
  simp only [aJ] at e3
  obtain⟨ad,len,cap,q1,q2,q3,q4,_⟩:=e3
  simp only [gj,and_true] at q1
  rcases q4 with q4 | ⟨blk,off,c,T',fz,part,rest,q5,_⟩
  ·cases q4
  ·subst q5
   exact⟨.bool false,by simp only [execOp,q1,e2];rw [Sem.run_bind,ath hT];rfl,bu.bool⟩
 | @bne T x y U i j hx hy hT =>
  have e1:=cO x ck;rw [hx] at e1;have e1:=e1.fk
  have e2:=cO y ck;rw [hy] at e2;have e2:=e2.fk
  exact⟨.bool (!(i==j)),by simp only [execOp,e1,e2];rw [Sem.run_bind,aC8 hT];rfl,bu.bool⟩
 | @not T x i hx =>
  have e1:=cO x ck;rw [hx] at e1;have e1:=e1.fk
  exact⟨.bool (!i),by simp [execOp,e1,Op.unary],bu.bool⟩
 | @neg T x k i hx =>
  have e1:=cO x ck;rw [hx] at e1;have e1:=e1.fk
  exact⟨.int k (k.wrap (0-i)),by simp [execOp,e1,Op.unary,Op.intArith],bu.int⟩
 | @conv S D x k k' n d hS hD hx =>
  have e1:=cO x ck;rw [hx] at e1;have e1:=e1.fk
  exact⟨.int k (k.wrap n),by simp [execOp,e1,convert,run_underlying hS,run_underlying hD,Conv.intToInt],bu.int⟩
 | @extract t i l r ht hr bj =>
  have e1:=cO t ck;rw [ht] at e1
  obtain⟨vs,e2,e3⟩:=e1
  obtain⟨v,h1,h2⟩:=fW.get _ _ _ _ e3 hr
  refine⟨v,?_,bu.sn bj h2⟩
  have:vs[i]?=some v:=by rw [<-amf];exact h1
  simp [execOp,e2,Instr.extract,this]
 | @field T x k fs r hx hT hr bj =>
  have e1:=cO x ck;rw [hx] at e1
  obtain⟨u,h1,h2⟩:=aAw (P:=P) (w:=w) hT hr (LV.dT bj) (bu.yi aW aW e1)
  exact⟨u,by simp [execOp,h1],bu.sn (LV.dG bj) h2⟩
 | @abt T p k fs r hp hT hr =>
  have e1:=cO p ck;rw [hp] at e1
  have e2:=e1.2 rfl
  simp only [aJ] at e2
  obtain⟨blk,off,cc,U,fz,part,rest,h1,h2,h3,h4,h5,h6,h7⟩:=e2
  obtain⟨pre,ch,post,g1,g2,g3,g4,_⟩:=cj.get fs part k r h6 hr
  have hk:k<(fs.map lay).length:=by rw [eD];exact(oe.1 hr).1
  have hf:=ava (P:=P) (w:=w) hT hk blk off
  rw [ahP] at hf
  refine⟨.pointer (some ⟨blk,off+cL (fs.take k),none⟩),?_,⟨by simp [LV.isAgg],fun _=>?_⟩⟩
  ·simp only [gj,and_true] at h1
   simp [execOp,h1,hf]
  ·simp only [aJ]
   refine⟨blk,_,cc,U,fz,ch,post++rest,rfl,h2,h3,?_,g3,g4,(yk _).1 (by simpa [LV.pure] using h7) _ (sQ hr)⟩
   rw [<-qL,h4,g1,<-g2]
   simp
 | @adC T p k b sz i o ls hp hT hk =>
  have e1:=cO p ck;rw [hp] at e1
  have e2:=e1.2 rfl
  simp only [aJ] at e2
  obtain⟨id,h1,h2⟩:=e2
  simp only [gj,and_true] at h1
  have hf:=ava (P:=P) (w:=w) hT hk id (i*sz+o)
  refine⟨.pointer (some ⟨id,i*sz+o+nu (ls.take k),none⟩),by simp [execOp,h1,hf],⟨by simp [LV.isAgg],fun _=>?_⟩⟩
  simp only [aJ]
  exact⟨id,by rw [oQ],h2⟩
 | @ahn T E x i n fs k m r sz ag hx hT hE hf hi h0 hr hp =>
  have e1:=cO x ck;rw [hx] at e1
  have e2:=cO i ck;rw [hi] at e2;have e2:=e2.fk
  obtain⟨u,h1,h2⟩:=azM (P:=P) (w:=w) (k:=k) hT hE hf h0 hr (LV.dT hp) (bu.yi aW aW e1)
  exact⟨u,by simp [execOp,e2,h1],bu.sn (LV.dG hp) h2⟩
 | @adZ T E x j n b sz i o k m es ag hx hT hE hi h0 hm =>
  have e1:=cO x ck;rw [hx] at e1
  have e3:=cO j ck;rw [hi] at e3;have e3:=e3.fk
  have e2:=e1.2 rfl
  simp only [aJ] at e2
  obtain⟨id,h1,h2⟩:=e2
  simp only [gj,and_true] at h1
  have hf:=run_indexAt_array (P:=P) (w:=w) hT hE k m id (i*sz+o) h0 hm
  refine⟨.pointer (some ⟨id,i*sz+o+m.toNat*es,none⟩),by simp [execOp,h1,e3,hf],⟨by simp [LV.isAgg],fun _=>?_⟩⟩
  simp only [aJ]
  exact⟨id,by rw [oQ],h2⟩
 | @adJ T E x i n fs k m r sz ag hx hT hE hf hi h0 hr =>
  have e1:=cO x ck;rw [hx] at e1
  have e3:=cO i ck;rw [hi] at e3;have e3:=e3.fk
  have e2:=e1.2 rfl
  simp only [aJ] at e2
  obtain⟨blk,off,cc,U,fz,part,rest,h1,h2,h3,h4,h5,h6,h7⟩:=e2
  obtain⟨hl,hly⟩:=ax4 hf
  have hk:=(oe.1 hr).1
  obtain⟨pre,ch,post,g1,g2,g3,g4,_⟩:=cj.get fs part m.toNat r h6 hr
  have ot:=run_indexAt_array (P:=P) (w:=w) hT hE k m blk off h0 J
  rw [<-ahG (n:=n) fs m.toNat hly J] at ot
  refine⟨.pointer (some ⟨blk,off+cL (fs.take m.toNat),none⟩),?_,⟨by simp [LV.isAgg],fun _=>?_⟩⟩
  ·simp only [gj,and_true] at h1
   simp [execOp,h1,e3,ot]
  ·simp only [aJ]
   refine⟨blk,_,cc,U,fz,ch,post++rest,rfl,h2,h3,?_,g3,g4,(yk _).1 (by simpa [LV.pure] using h7) _ (sQ hr)⟩
   rw [<-qL,h4,g1,<-g2]
   simp
 | @abz T p c hp hT hc =>
  have e1:=cO p ck;rw [hp] at e1
  have e2:=e1.2 rfl
  simp only [aJ] at e2
  obtain⟨blk,off,cc,U,fz,part,rest,h1,h2,h3,h4,h5,h6,h7⟩:=e2
  simp only [gj,and_true] at h1
  obtain⟨v,g1,g2⟩:=asE (P:=P) hT h3 h4 h6 (LV.dT hc)
  exact⟨v,by simp [execOp,h1,g1],bu.sn (LV.dG hc) g2⟩
 | @dU T p b sz i o blk x r n ag hp hb hs hi hx hr hT =>
  have e1:=cO p ck;rw [hp] at e1
  have e2:=e1.2 rfl
  simp only [aJ] at e2
  obtain⟨id,h1,h2⟩:=e2
  simp only [gj,and_true] at h1
  obtain⟨blk',yY,c,U,part,rest,q1,q2,q3⟩:=hh b id h2
  rw [hb] at yY;cases yY
  obtain⟨ch,post,k1,k2,k3⟩:=anM (off:=0) (by simpa using q2) q3 hi
  obtain⟨pre,vp,vL,j1,j2,j3,j4,j5,j6,j7,j8⟩:=LV.ake x o n ag r ch hr k3 (by rw [k2,hs,hx])
  have hd:c.toList.drop (i*sz+o)=vp++(vL++post):=by
   rw [fg,hs] at k1
   rw [<-qL,k1,j1,<-j2];simp
  obtain⟨v,g1,g2⟩:=asE (P:=P) (y:=r) (by rw [j5,j6];exact hT) q1 hd j4 j7
  exact⟨v,by simp [execOp,h1,g1],bu.sn j8 g2⟩
 | @afb x b sz i o hx =>
  have e1:=cO x ck;rw [hx] at e1
  have e2:=e1.2 rfl
  simp only [aJ] at e2
  obtain⟨id,h1,h2⟩:=e2
  simp only [gj,and_true] at h1
  exact⟨a.eval x,by simp [execOp,h1],e1⟩
 | @aeN x c hx =>
  have e1:=cO x ck;rw [hx] at e1
  have e2:=e1.2 rfl
  simp only [aJ] at e2
  obtain⟨blk,off,cc,U,fz,part,rest,h1,h2⟩:=e2
  simp only [gj,and_true] at h1
  exact⟨a.eval x,by simp [execOp,h1],e1⟩
 | @gD T E x i sz l k n r ag hx hT hE hi h0 hr hc =>
  have e1:=cO x ck;rw [hx] at e1
  have e2:=cO i ck;rw [hi] at e2;have e2:=e2.fk
  have e3:=e1.2 rfl
  simp only [aJ] at e3
  obtain⟨ad,len,cap,h1,h2,h3,h4,h9⟩:=e3
  simp only [gj,and_true] at h1
  have bZ:=(oe.1 hr).1
  rcases h4 with h4 | ⟨blk,off,c,U,fz,part,rest,g1,g2,g3,g4,g5⟩
  ·subst h4;simp at bZ
  ·subst g1
   have hn:n<(len:Int):=by omega
   have:=run_indexAt_slice (P:=P) (w:=w) hT hE k n len cap blk off h0 hn
   obtain⟨ch,post,k1,k2,k3⟩:=anM g4 g5 hr
   refine⟨_,by simp only [execOp,h1,e2,Sem.run_bind,this];rfl,⟨by simp [LV.isAgg],fun _=>?_⟩⟩
   simp only [aJ]
   exact⟨blk,_,c,U,fz,ch,post,rfl,g2,g3,k1,by rw [k2,hc],k3,(yk _).1 h9 _ (sQ hr)⟩
 | @abp T E x i b sz off len k n ag hx hT hE hi h0 hn =>
  have e1:=cO x ck;rw [hx] at e1
  have e2:=cO i ck;rw [hi] at e2;have e2:=e2.fk
  have e3:=e1.2 rfl
  simp only [aJ] at e3
  rcases e3 with⟨_,e3⟩ | ⟨id,cap,c,U,fz,h1,h2,h3,h4,h5⟩
  ·omega
  simp only [gj,and_true] at h1
  have:=run_indexAt_slice (P:=P) (w:=w) hT hE k n len cap id (off*sz) h0 hn
  refine⟨_,by simp only [execOp,h1,e2,Sem.run_bind,this];rfl,⟨by simp [LV.isAgg],fun _=>?_⟩⟩
  simp only [aJ]
  exact⟨id,by rw [iw];rfl,h2⟩
 | @adA T E x sz ag l lo hi la ha hx hT hE cq qg iZ ud h1 h2 =>
  have e1:=cO x ck;rw [hx] at e1
  have e3:=e1.2 rfl
  simp only [aJ] at e3
  obtain⟨ad,len,cap,q1,q2,q3,q4,q9⟩:=e3
  simp only [gj,and_true] at q1
  have hb:=aoh (P:=P) (w:=w) true len cap (la.map a.eval) (ha.map a.eval) lo hi
   (fun y hy=>by
    cases la with
    | none=>simp at hy
    | some z =>
     simp only [rz,fv] at hy
     obtain⟨k,hk⟩:=cq z rfl
     have:=cO z ck;rw [hk] at this
     exact⟨k,by rw [<-hy];exact this.fk⟩)
   (fun h=>qg nP)
   (fun y hy=>by
    cases ha with
    | none=>simp at hy
    | some z =>
     simp only [rz,fv] at hy
     obtain⟨k,hk⟩:=iZ z rfl
     have:=cO z ck;rw [hk] at this
     exact⟨k,by rw [<-hy];exact this.fk⟩)
   (fun h=>by rw [q2];exact ud nP) h1 J
  have fI:(Instr.sliceAt T (.slice ad len cap) (la.map a.eval) (ha.map a.eval) none).run P w=.ok (.slice (if cap=lo then ad else ad.map (·.add (lo*sz))) (hi-lo) (cap-lo)) w:=by
   simp only [Instr.sliceAt,Sem.run_bind,run_underlying hT,Result.andThen_ok,Instr.slice,hb,run_sizeOf hE,Sem.run_pure]
  refine⟨_,by simp only [execOp,q1,anw,Sem.run_bind,fI];rfl,⟨by simp [LV.isAgg],fun _=>?_⟩⟩
  simp only [aJ]
  refine⟨_,_,_,rfl,by simp;omega,J,?_,(yk _).2 fun x hx=>(yk _).1 q9 x (x5 (xX hx))⟩
  by_cases bZ:lo<hi
  ·right
   rcases q4 with q4 | ⟨blk,off,c,U,fz,part,rest,g1,g2,g3,g4,g5⟩
   ·subst q4;simp at h2;omega
   ·subst g1
    have mC:¬ cap=lo:=by omega
    obtain⟨c1,c2,d1,d2,d3⟩:=a6.split (l.take hi) (l.drop hi) part (by rw [xu];exact g5)
    obtain⟨c3,c4,d4,d5,d6⟩:=a6.split ((l.take hi).take lo) ((l.take hi).drop lo) c1 (by rw [xu];exact d2)
    have td:=a6.length _ _ d5
    simp only [fQ] at td
    refine⟨blk,off+lo*sz,c,U,fz,c4,c2++rest,by simp [mC,Addr.add_mid],g2,g3,?_,d6⟩
    rw [<-qL,g4,d1,d4]
    have:lo*sz=c3.length:=by rw [td];congr 1;omega
    rw [this];simp
  ·left
   have:lo=hi:=by omega
   subst this
   apply List.eq_nil_of_length_eq_zero
   simp
 | @wj T E x b sz off len ag lo hi la ha hx hT hE cq qg iZ ud h1 h2 kp =>
  have e1:=cO x ck;rw [hx] at e1
  have e3:=e1.2 rfl
  simp only [aJ] at e3
  rcases e3 with⟨_,e3⟩ | ⟨id,cap,c,U,fz,q1,q2,q3,q4,q5⟩
  ·omega
  simp only [gj,and_true] at q1
  have hb:=aoh (P:=P) (w:=w) true len cap (la.map a.eval) (ha.map a.eval) lo hi
   (fun y hy=>by
    cases la with
    | none=>simp at hy
    | some z =>
     simp only [rz,fv] at hy
     obtain⟨k,hk⟩:=cq z rfl
     have:=cO z ck;rw [hk] at this
     exact⟨k,by rw [<-hy];exact this.fk⟩)
   (fun h=>qg nP)
   (fun y hy=>by
    cases ha with
    | none=>simp at hy
    | some z =>
     simp only [rz,fv] at hy
     obtain⟨k,hk⟩:=iZ z rfl
     have:=cO z ck;rw [hk] at this
     exact⟨k,by rw [<-hy];exact this.fk⟩)
   (fun h=>ud nP) h1 J
  have fI:(Instr.sliceAt T (.slice (some ⟨id,off*sz,none⟩) len cap) (la.map a.eval) (ha.map a.eval) none).run P w =
    .ok (.slice (if cap=lo then some ⟨id,off*sz,none⟩ else some ⟨id,off*sz+lo*sz,none⟩) (hi-lo) (cap-lo)) w:=by
   simp only [Instr.sliceAt,Sem.run_bind,run_underlying hT,Result.andThen_ok,Instr.slice,hb,run_sizeOf hE,Sem.run_pure,rz,Addr.add_mid]
  refine⟨_,by simp only [execOp,q1,anw,Sem.run_bind,fI];rfl,⟨by simp [LV.isAgg],fun _=>?_⟩⟩
  simp only [aJ]
  have mC:¬ cap=lo:=by omega
  refine .inr ⟨id,cap-lo,c,U,fz,by simp [mC,iw],q2,J,q4,?_⟩
  have:off+lo+(cap-lo)=off+cap:=by omega
  rw [this];exact q5
 | @afJ T E x b sz off len ag lo hi mx la z zm k k' hx hT hE cq qg iZ hmx h1 h2 h3 kp =>
  have e1:=cO x ck;rw [hx] at e1
  have e3:=e1.2 rfl
  simp only [aJ] at e3
  rcases e3 with⟨_,e3⟩ | ⟨id,cap,c,U,fz,q1,q2,q3,q4,q5⟩
  ·omega
  simp only [gj,and_true] at q1
  have g1:=cO z ck;rw [iZ] at g1
  have g2:=cO zm ck;rw [hmx] at g2
  have hb:=aEa (P:=P) (w:=w) len cap (la.map a.eval) lo hi mx k k'
   (fun y hy=>by
    cases la with
    | none=>simp at hy
    | some z =>
     simp only [rz,fv] at hy
     obtain⟨k,hk⟩:=cq z rfl
     have:=cO z ck;rw [hk] at this
     exact⟨k,by rw [<-hy];exact this.fk⟩)
   (fun h=>qg nP) h1 h2 J
  have fI:(Instr.sliceAt T (.slice (some ⟨id,off*sz,none⟩) len cap) (la.map a.eval) (some (a.eval z)) (some (a.eval zm))).run P w =
    .ok (.slice (if mx=lo then some ⟨id,off*sz,none⟩ else some ⟨id,off*sz+lo*sz,none⟩) (hi-lo) (mx-lo)) w:=by
   rw [g1.fk,g2.fk]
   simp only [Instr.sliceAt,Sem.run_bind,run_underlying hT,Result.andThen_ok,Instr.slice,hb,run_sizeOf hE,Sem.run_pure,rz,Addr.add_mid]
  refine⟨_,by simp only [execOp,q1,rz,Sem.run_bind,fI];rfl,⟨by simp [LV.isAgg],fun _=>?_⟩⟩
  simp only [aJ]
  have mC:¬ mx=lo:=by omega
  refine .inr ⟨id,mx-lo,c,U,fz,by simp [mC,iw],q2,J,q4,?_⟩
  have:off+lo+(mx-lo)=off+mx:=by omega
  rw [this]
  exact Nat.le_trans (Nat.mul_le_mul_right _ J) q5
 | @abK T x sz l d as hx has hT =>
  have e1:=cO x ll;rw [hx] at e1
  have e3:=e1.2 rfl
  simp only [aJ] at e3
  obtain⟨ad,len,cap,q1,q2,_⟩:=e3
  simp only [gj,and_true] at q1
  subst has
  exact⟨.int .i64 (l.length:Nat),by simp [execOp,resolve,invoke,builtin,q1,Builtin.len_,run_underlying hT,goInt,q2],bu.int⟩
 | @ac4 T x b sz off len d as hx has hT =>
  have e1:=cO x ll;rw [hx] at e1
  have e3:=e1.2 rfl
  simp only [aJ] at e3
  subst has
  rcases e3 with⟨q1,rfl⟩ | ⟨id,cap,c,U,fz,q1,_⟩
  ·simp only [gj,and_true] at q1
   exact⟨.int .i64 (0:Nat),by simp [execOp,resolve,invoke,builtin,q1,Builtin.len_,run_underlying hT,goInt],bu.int⟩
  simp only [gj,and_true] at q1
  exact⟨.int .i64 (len:Nat),by simp [execOp,resolve,invoke,builtin,q1,Builtin.len_,run_underlying hT,goInt],bu.int⟩
 | @adg T x b sz off len cp d as hx has hT =>
  have e1:=cO x ll;rw [hx] at e1
  have e3:=e1.2 rfl
  simp only [aJ] at e3
  subst has
  obtain⟨id,c,U,fz,q1,_⟩:=e3
  simp only [gj,and_true] at q1
  exact⟨.int .i64 (len:Nat),by simp [execOp,resolve,invoke,builtin,q1,Builtin.len_,run_underlying hT,goInt],bu.int⟩
 | @ad8 T x b sz off len cp d as hx has hT =>
  have e1:=cO x ll;rw [hx] at e1
  have e3:=e1.2 rfl
  simp only [aJ] at e3
  subst has
  obtain⟨id,c,U,fz,q1,_⟩:=e3
  simp only [gj,and_true] at q1
  exact⟨.int .i64 (cp:Nat),by simp [execOp,resolve,invoke,builtin,q1,Builtin.cap_,run_underlying hT,goInt],bu.int⟩
 | @adN T E x b sz off len cp ag lo hi la ha hx hT hE cq qg iZ ud h1 h2 kp =>
  have e1:=cO x ck;rw [hx] at e1
  have e3:=e1.2 rfl
  simp only [aJ] at e3
  obtain⟨id,c,U,fz,q1,q2,q3,q4,q5⟩:=e3
  simp only [gj,and_true] at q1
  have hb:=aoh (P:=P) (w:=w) true len cp (la.map a.eval) (ha.map a.eval) lo hi
   (fun y hy=>by
    cases la with
    | none=>simp at hy
    | some z =>
     simp only [rz,fv] at hy
     obtain⟨k,hk⟩:=cq z rfl
     have:=cO z ck;rw [hk] at this
     exact⟨k,by rw [<-hy];exact this.fk⟩)
   (fun h=>qg nP)
   (fun y hy=>by
    cases ha with
    | none=>simp at hy
    | some z =>
     simp only [rz,fv] at hy
     obtain⟨k,hk⟩:=iZ z rfl
     have:=cO z ck;rw [hk] at this
     exact⟨k,by rw [<-hy];exact this.fk⟩)
   (fun h=>ud nP) h1 h2
  have fI:(Instr.sliceAt T (.slice (some ⟨id,off*sz,none⟩) len cp) (la.map a.eval) (ha.map a.eval) none).run P w =
    .ok (.slice (if cp=lo then some ⟨id,off*sz,none⟩ else some ⟨id,off*sz+lo*sz,none⟩) (hi-lo) (cp-lo)) w:=by
   simp only [Instr.sliceAt,Sem.run_bind,run_underlying hT,Result.andThen_ok,Instr.slice,hb,run_sizeOf hE,Sem.run_pure,rz,Addr.add_mid]
  refine⟨_,by simp only [execOp,q1,anw,Sem.run_bind,fI];rfl,⟨by simp [LV.isAgg],fun _=>?_⟩⟩
  simp only [aJ]
  have mC:¬ cp=lo:=by omega
  refine⟨id,c,U,fz,by simp [mC,iw],q2,J,q4,?_⟩
  have:off+lo+(cp-lo)=off+cp:=by omega
  rw [this];exact q5
 | @acK T x d as hx has hT =>
  have e1:=cO x ll;rw [hx] at e1;have e1:=e1.fk
  subst has
  exact⟨.int .i64 (0:Nat),by simp [execOp,resolve,invoke,builtin,e1,Builtin.len_,run_underlying hT,goInt],bu.int⟩
 | @min2 x y k i j as hx hy =>
  have e1:=cO x ll;rw [hx] at e1;have e1:=e1.fk
  have e2:=cO y ll;rw [hy] at e2;have e2:=e2.fk
  exact⟨.int k (if j<i then j else i),by simp [execOp,resolve,invoke,builtin,e1,e2,Builtin.min_,Builtin.min2],bu.int⟩
 | @max2 x y k i j as hx hy =>
  have e1:=cO x ll;rw [hx] at e1;have e1:=e1.fk
  have e2:=cO y ll;rw [hy] at e2;have e2:=e2.fk
  exact⟨.int k (if j > i then j else i),by simp [execOp,resolve,invoke,builtin,e1,e2,Builtin.max_,Builtin.max2],bu.int⟩
 | @ahz T x i s k n b hx hT hi h0 hb =>
  have e1:=cO x ck;rw [hx] at e1;have e1:=e1.fk
  have e2:=cO i ck;rw [hi] at e2;have e2:=e2.fk
  exact⟨.int .u8 b.toNat,by simp [execOp,e1,e2,Instr.index,asIntOf,run_underlying hT,h0,hb],bu.int⟩
 | @adq f xs as fn e vs r1 r2 hf uE hb hn he hx hr h1 h2 =>
  have hargs:xs.map a.eval=vs.toArray:=by
   apply wa
   rw [Array.toList_map]
   have:∀ (l:List Operand) (vs:List Value),l.map ρ=vs.map LV.v->(∀ x∈l,bu Z μ w (ρ x) (a.eval x))->l.map a.eval=vs:=by
    intro l
    induction l with
    | nil =>
         intro vs h _;cases vs with
         | nil=>rfl
         | cons=>simp at h
    | cons y ys ih =>
     intro vs h hr
     cases vs with
     | nil=>simp at h
     | cons v vs =>
      simp only [lI,gj] at h ⊢
      have h3:=hr y aW
      rw [h.1] at h3
      exact⟨h3.fk,ih vs h.2 (fun z hz=>hr z (by simp [hz]))⟩
   exact this xs.toList vs hx (fun x hx=>cO x (by simp [Op.operands,Call.operands];right;simpa using hx))
  have hc:=run_callFunc_extern (P:=P) (args:=vs.toArray) hf uE hb hn he w
  refine⟨.tuple #[r1,r2],?_,⟨#[r1,r2],rfl,?_⟩⟩
  ·rw [hr w] at hc
   simp only [execOp,resolve,Act.eval,Deferred.ofValue,Sem.run_bind,Sem.run_pure,Result.andThen_ok,invoke]
   rw [hargs]
   simp only [Array.append_empty,Array.empty_append]
   rw [hc];rfl
  ·exact⟨r1,[r2],rfl,⟨by simp [LV.isAgg],fun _=>by simp [aJ,h1]⟩,r2,[],rfl,⟨by simp [LV.isAgg],fun _=>by simp [aJ,h2]⟩,rfl⟩
 | @yT T E zs ps n sz ag hT hE hf hz hp =>
  have hm:∀ p∈ps.toList,bu Z μ w (ρ p.2) (a.eval p.2):=fun p hp=>cO p.2 (by simp [Op.operands];exact⟨p.1,by simpa using hp⟩)
  obtain⟨v,h1,h2⟩:=azQ (P:=P) (Z:=Z) (μ:=μ) (w:=w) (a:=a) hT hE hf hz hp hm
  exact⟨v,by simp only [execOp];rw [Sem.run_bind,h1];rfl,h2⟩
 | @build T zs ps hT hz hp =>
  have hm:∀ p∈ps.toList,bu Z μ w (ρ p.2) (a.eval p.2):=fun p hp=>cO p.2 (by simp [Op.operands];exact⟨p.1,by simpa using hp⟩)
  obtain⟨v,h1,h2⟩:=aGD (P:=P) (Z:=Z) (μ:=μ) (w:=w) (a:=a) hT hz hp hm
  exact⟨v,by simp only [execOp];rw [Sem.run_bind,h1];rfl,h2⟩
end
end Go.Lg
namespace Go.Lg
def b9.le (H H':b9):Prop:=∀ b blk,H b=some blk->∃ m,H' b=some ⟨blk.sz,blk.vals,m⟩/\(blk.mt=false->m=false)/\(blk.mt=true->m=false->b≠0)
def pX (μ:Nat->Option Nat) (d id:Nat):Nat->Option Nat:=fun b=>if b=d then some id else μ b
section
variable {P:Program} {W w w':World} {X:XS} {Z0 Z:Nat->Prop} {μ:Nat->Option Nat} {H:b9}
theorem ug.mono {Z':Nat->Prop} {bD:Nat->Option Nat} {blk:bA} {id:Nat} (hz:∀ id,Z id->Z' id) (hm:∀ b id,μ b=some id->bD b=some id) (hf:Frame Z μ w w')
  (hid:w'.heap[id]?=w.heap[id]?) (h:ug Z μ w blk id):ug Z' bD w' blk id:=by
 obtain⟨c,T,part,rest,h1,h2,h3⟩:=h
 exact⟨c,T,part,rest,hid.trans h1,h2,h3.mono hz hm hf⟩
theorem Core.lt (hc:Core W X Z0 μ Z H w) {b id:Nat} (h:μ b=some id):id<w.heap.size:=by
 obtain⟨blk,_,c,T,part,rest,h1,_⟩:=hc.heap b id h
 exact(nC.1 h1).1
theorem Core.v7 {H':b9} (hc:Core W X Z0 μ Z H w) (hle:H.le H'):∃ Z',Core W X Z0 μ Z' H' w/\(∀ id,Z id->Z' id):=by
 refine⟨fun id=>Z id\/∃ b blk,μ b=some id/\H' b=some blk/\blk.mt=false,⟨hc.cx,?_,fun id h=>.inl (hc.jy id h),?_,hc.inj,hc.own,hc.x0,hc.nV,hc.x1,?_,fun b id blk h1 h2 h3=>.inr ⟨b,blk,h1,h2,h3⟩,?_⟩,fun id h=>.inl h⟩
 ·rintro id (h | ⟨b,blk,h,_⟩)
  ·exact hc.lg id h
  ·exact hc.lt h
 ·rintro id (h | ⟨b,blk,h,h2,h3⟩)
  ·exact hc.lh id h
  ·obtain⟨ui,g1,_⟩:=hc.heap b id h
   obtain⟨m,g2,g3,g4⟩:=hle b ui g1
   rw [g2] at h2;cases h2
   simp only at h3;subst h3
   cases hm:ui.mt with
   | false=>exact hc.lh id (hc.ca b id ui h g1 hm)
   | true =>
    rcases hc.own b id h with h | h' | h'
    ·exact .inr (.inl h)
    ·exact absurd (hc.x0 b id h h') (g4 hm rfl)
    ·exact .inr (.inr h')
 ·rintro b id blk h1 h2 h3 (h | ⟨b',blk',h4,h5,h6⟩)
  ·obtain⟨ui,g1,_⟩:=hc.heap b id h1
   obtain⟨m,g2,g3,_⟩:=hle b ui g1
   rw [g2] at h2;cases h2
   cases hm:ui.mt with
   | false=>have:=g3 hm;subst this;simp at h3
   | true=>exact hc.ja b id ui h1 g1 hm h
  ·have:=hc.inj b b' id h1 h4
   subst this
   rw [h2] at h5;cases h5
   simp [h3] at h6
 ·intro b id h
  obtain⟨blk,g1,g2⟩:=hc.heap b id h
  obtain⟨m,g3,_⟩:=hle b blk g1
  refine⟨_,g3,?_⟩
  obtain⟨c,T,part,rest,h1,h2,h3⟩:=g2
  exact⟨c,T,part,rest,h1,h2,h3.mono (fun id h=>.inl h) (fun _ _ h=>h) (Frame.refl _ _ _) |>.mono (fun _ h=>h) (fun _ _ h=>h) ⟨fun _ _=>rfl,(Frame.refl Z μ w).m⟩⟩
structure sf (w w':World) (o:Obj):Prop where
 os:w'.os=w.os
 tape:w'.tape=w.tape
 output:w'.output=w.output
 heap:w'.heap=w.heap.push o
theorem sf.old {o:Obj} (h:sf w w' o) {k:Nat} (hk:k<w.heap.size):w'.heap[k]?=w.heap[k]?:=by
 rw [h.heap,Array.getElem?_push,if_neg J]
theorem sf.new {o:Obj} (h:sf w w' o):w'.heap[w.heap.size]?=some o:=by
 rw [h.heap];simp
theorem sf.alloc (w:World) (o:Obj):sf w (w.alloc o) o:=⟨rfl,rfl,rfl,rfl⟩
theorem Core.awf (hc:Core W X Z0 μ Z H w) (hold:∀ k,k<w.heap.size->w'.heap[k]?=w.heap[k]?):Frame Z μ w w' :=
 ⟨fun id h=>hold id (hc.lg id h),fun _ id h c _ _ hh=>⟨c,(hold id (hc.lt h)).trans hh,rfl⟩⟩
theorem Core.push {d:Nat} {blk:bA} {c:Array Value} {T:TypeId} {part rest:List Value} (hc:Core W X Z0 μ Z H w) (hd:H d=some blk) (zG:μ d=none)
  (hp:sf w w' (.cells c T (0,0))) (h1:c.toList=part++rest) (h2:a6 Z μ w blk.sz blk.vals part) :
  ∃ Z',Core W X Z0 (pX μ d w.heap.size) Z' H w'/\(∀ id,Z id->Z' id)/\(∀ b id,μ b=some id->pX μ d w.heap.size b=some id)/\Frame Z μ w w' /\
   pX μ d w.heap.size d=some w.heap.size/\w'.heap[w.heap.size]?=some (.cells c T (0,0)):=by
 have zN:∀ b id,μ b=some id->pX μ d w.heap.size b=some id:=fun b id h=>by
  unfold pX;split
  ·subst_vars;rw [zG] at h;cases h
  ·exact h
 have dS:=hc.awf (fun k hk=>hp.old hk)
 have hinv:∀ b id,pX μ d w.heap.size b=some id->(b=d/\id=w.heap.size)\/(b≠d/\μ b=some id):=fun b id h=>by
  unfold pX at h;split at h
  ·cases h;exact .inl ⟨by assumption,rfl⟩
  ·exact .inr ⟨by assumption,h⟩
 have hzz:∀ id,Z id->(Z id\/(blk.mt=false/\id=w.heap.size)):=fun id h=>.inl h
 refine⟨fun id=>Z id\/(blk.mt=false/\id=w.heap.size),⟨?_,?_,fun id h=>.inl (hc.jy id h),?_,?_,?_,?_,hc.nV,fun id h=>zN 0 id (hc.x1 id h),?_,?_,?_⟩,hzz,zN,dS,by simp [pX],hp.new⟩
 ·exact⟨hp.os.trans hc.cx.os,hp.tape.trans hc.cx.tape,hp.output.trans hc.cx.output,by rw [hp.heap,aka];have:=hc.cx.size;omega,
   fun k hk hx=>(hp.old (by have:=hc.cx.size;omega)).trans (hc.cx.block k hk hx),
   fun k hx c T fz h=>let ⟨c',g1,g2⟩:=hc.cx.vg k hx c T fz h;⟨c',(hp.old (nC.1 g1).1).trans g1,g2⟩⟩
 ·rintro id (h | ⟨_,rfl⟩)
  ·have:=hc.lg id h;rw [hp.heap,aka];omega
  ·rw [hp.heap,aka];omega
 ·rintro id (h | ⟨_,rfl⟩)
  ·exact hc.lh id h
  ·exact .inr (.inl hc.cx.size)
 ·intro b b' id h h'
  rcases hinv b id h with⟨rfl,rfl⟩ | ⟨n1,h1⟩<;>rcases hinv b' _ h' with⟨rfl,e⟩ | ⟨n2,h2⟩
  ·rfl
  ·have:=hc.lt h2;omega
  ·have:=hc.lt h1;omega
  ·exact hc.inj b b' id h1 h2
 ·intro b id h
  rcases hinv b id h with⟨rfl,rfl⟩ | ⟨n1,h1⟩
  ·exact .inl hc.cx.size
  ·exact hc.own b id h1
 ·intro b id h hx
  rcases hinv b id h with⟨rfl,rfl⟩ | ⟨n1,h1⟩
  ·have:=hc.nV _ (.inl hx);have:=hc.cx.size;omega
  ·exact hc.x0 b id h1 hx
 ·rintro b id bk h hb hm (hz | ⟨qG,rfl⟩)
  ·rcases hinv b id h with⟨rfl,rfl⟩ | ⟨n1,h1⟩
   ·have:=hc.lg _ hz;omega
   ·exact hc.ja b id bk h1 hb hm hz
  ·rcases hinv b _ h with⟨rfl,_⟩ | ⟨n1,h1⟩
   ·rw [hd] at hb;cases hb;simp [hm] at qG
   ·have:=hc.lt h1;omega
 ·intro b id bk h hb hm
  rcases hinv b id h with⟨rfl,rfl⟩ | ⟨n1,h1⟩
  ·rw [hd] at hb;cases hb;exact .inr ⟨hm,rfl⟩
  ·exact .inl (hc.ca b id bk h1 hb hm)
 ·intro b id h
  rcases hinv b id h with⟨rfl,rfl⟩ | ⟨n1,h3⟩
  ·exact⟨blk,hd,c,T,part,rest,hp.new,h1,h2.mono hzz zN dS⟩
  ·obtain⟨bk,g1,g2⟩:=hc.heap b id h3
   exact⟨bk,g1,g2.mono hzz zN dS (hp.old (hc.lt h3))⟩
end
mutual
inductive da (H:b9):LV->LV->Prop
 | pure {x} (h:x.pure=true):da H x x
 | nil (sz):da H (.v (.slice none 0 0)) (.list sz [])
 | ref {b sz off len blk} (hb:H b=some blk) (hs:blk.sz=sz) (hp:aK blk.vals=true) (hl:off+len<=blk.vals.length) (hf:blk.mt=false) :
   da H (.ref b sz off len) (.list sz ((blk.vals.drop off).take len))
 | aF {b sz i o blk x y n ag} (hb:H b=some blk) (hs:blk.sz=sz) (hi:blk.vals[i]?=some x) (hx:x.av=sz) (hy:x.at o n ag=some y) (hp:y.pure=true) (hf:blk.mt=false) :
   da H (.aF b sz i o) (.ba y)
 | aeC {b sz off len blk l'} (hb:H b=some blk) (hs:blk.sz=sz) (hl:off+len<=blk.vals.length) (hf:blk.mt=false) (h:fH H ((blk.vals.drop off).take len) l'):da H (.ref b sz off len) (.list sz l')
 | agg {l l'} (h:fH H l l'):da H (.agg l) (.agg l')
inductive fH (H:b9):List LV->List LV->Prop
 | nil:fH H [] []
 | cons {x y xs ys} (h:da H x y) (t:fH H xs ys):fH H (x :: xs) (y :: ys)
end
section
variable {W w:World} {X:XS} {Z0 Z:Nat->Prop} {μ bD:Nat->Option Nat} {H H':b9}
mutual
theorem da.lay:∀ {x y:LV},da H x y->y.isAgg=x.isAgg/\y.av=x.av/\y.pure=true
 | _,_,.pure h=>⟨rfl,rfl,h⟩
 | _,_,.nil _=>⟨rfl,rfl,rfl⟩
 | _,_,.ref hb hs hp hl hf=>⟨rfl,rfl,by
   simp only [LV.pure]
   rw [yk] at hp ⊢
   exact fun x hx=>hp x (xX (x5 hx))⟩
 | _,_,.aF hb hs hi hx hy hp hf=>⟨rfl,rfl,by simpa [LV.pure] using hp⟩
 | _,_,.aeC hb hs hl hf h=>⟨rfl,rfl,by simpa [LV.pure] using (fH.lay h).2⟩
 | _,_,.agg h=>by
   have:=fH.lay h
   exact⟨rfl,by simp [LV.av,this.1],by simp [LV.pure,this.2]⟩
theorem fH.lay:∀ {x y:List LV},fH H x y->cL y=cL x/\aK y=true
 | _,_,.nil=>⟨rfl,rfl⟩
 | _,_,.cons h t=>by
   have h1:=da.lay h
   have h2:=fH.lay t
   exact⟨by simp [cL,h1.2.1,h2.1],by simp [aK,h1.2.2,h2.2]⟩
end
theorem fH.len:∀ {x y:List LV},fH H x y->y.length=x.length
 | _,_,.nil=>rfl
 | _,_,.cons _ t=>by simp [fH.len t]
mutual
theorem da.sound (hc:Core W X Z0 μ Z H w):∀ {x y:LV} {cs:List Value},da H x y->aJ Z μ w x cs->aJ Z bD w y cs
 | _,_,_,.pure h,hr=>aJ.kt (fun _ h=>h) (fun _ _=>rfl) _ _ h hr
 | _,_,_,.nil sz,hr=>by
   simp only [aJ] at hr ⊢
   exact⟨none,0,0,hr.1,rfl,bF _,.inl trivial,rfl⟩
 | _,_,_,@da.ref _ b sz off len blk hb hs hp hl hf,hr=>by
   simp only [aJ] at hr ⊢
   rcases hr with⟨hr,rfl⟩ | ⟨id,cap,c,T,fz,h1,h2,h3,h4,h5⟩
   ·exact⟨none,0,0,hr,by simp,bF _,.inl aW,by simp [aK]⟩
   obtain⟨blk',g1,c',T',part,rest,g2,g3,g4⟩:=hc.heap b id h2
   rw [hb] at g1;cases g1
   rw [h4] at g2;cases g2
   refine⟨_,_,_,h1,by simp;omega,h3,?_,(yk _).2 fun x hx=>(yk _).1 hp x (xX (x5 hx))⟩
   have hz:=hc.ca b id blk h2 hb hf
   right
   obtain⟨c1,c2,d1,d2,d3⟩:=a6.split (blk.vals.take off) (blk.vals.drop off) part acg
   obtain⟨c3,c4,d4,d5,d6⟩:=a6.split ((blk.vals.drop off).take len) ((blk.vals.drop off).drop len) c2 (by rw [xu];exact d3)
   have kN:=a6.length _ _ d2
   rw [fQ,nt J,hs] at kN
   refine⟨id,off*sz,c,T,(0,0),c3,c4++rest,rfl,hz,h4,?_,?_⟩
   ·rw [g3,d1,d4,<-kN];simp
   ·rw [hs] at d5
    refine a6.kt (fun _ h=>h) (fun _ _=>rfl) _ _ _ ?_ d5
    rw [yk] at hp ⊢
    exact fun x hx=>hp x (xX (x5 hx))
 | _,_,_,@da.aF _ b sz i o blk x y n ag hb hs hi hx hy hp hf,hr=>by
   simp only [aJ] at hr ⊢
   obtain⟨id,h1,h2⟩:=hr
   obtain⟨blk',g1,c,T,part,rest,g2,g3,g4⟩:=hc.heap b id h2
   rw [hb] at g1;cases g1
   have hz:=hc.ca b id blk h2 hb hf
   obtain⟨ch,post,k1,k2,k3⟩:=anM (off:=0) (by simpa using g3) g4 hi
   obtain⟨pre,vp,vL,j1,j2,j3,j4,j5,j6,j7,j8⟩:=LV.ake x o n ag y ch hy k3 (by rw [k2,hs,hx])
   refine⟨id,_,c,T,(0,0),vp,vL++post,h1,hz,g2,?_,by rw [j3,j6],aJ.kt (fun _ h=>h) (fun _ _=>rfl) _ _ hp j4,hp⟩
   rw [fg,hs] at k1
   rw [<-qL,k1,j1,<-j2];simp
 | _,_,_,@da.aeC _ b sz off len blk l' hb hs hl hf h,hr=>by
   simp only [aJ] at hr ⊢
   have hll:=fH.len h
   have hlp:=(fH.lay h).2
   rw [fQ,List.length_drop,nt J] at hll
   rcases hr with⟨hr,rfl⟩ | ⟨id,cap,c,T,fz,h1,h2,h3,h4,h5⟩
   ·exact⟨none,0,0,hr,hll.symm,bF _,.inl (List.length_eq_zero_iff.1 hll),hlp⟩
   obtain⟨blk',g1,c',T',part,rest,g2,g3,g4⟩:=hc.heap b id h2
   rw [hb] at g1;cases g1
   rw [h4] at g2;cases g2
   refine⟨_,_,_,h1,hll.symm,h3,?_,hlp⟩
   have hz:=hc.ca b id blk h2 hb hf
   right
   obtain⟨c1,c2,d1,d2,d3⟩:=a6.split (blk.vals.take off) (blk.vals.drop off) part acg
   obtain⟨c3,c4,d4,d5,d6⟩:=a6.split ((blk.vals.drop off).take len) ((blk.vals.drop off).drop len) c2 (by rw [xu];exact d3)
   have kN:=a6.length _ _ d2
   rw [fQ,nt J,hs] at kN
   refine⟨id,off*sz,c,T,(0,0),c3,c4++rest,rfl,hz,h4,?_,?_⟩
   ·rw [g3,d1,d4,<-kN];simp
   ·rw [hs] at d5
    exact fH.atT hc h d5
 | _,_,_,.agg h,hr=>by
   simp only [aJ] at hr ⊢
   exact fH.sound hc h hr
theorem fH.sound (hc:Core W X Z0 μ Z H w):∀ {x y:List LV} {cs:List Value},fH H x y->cj Z μ w x cs->cj Z bD w y cs
 | _,_,_,.nil,hr=>by simpa [cj] using hr
 | _,_,_,.cons h t,hr=>by
   simp only [cj] at hr ⊢
   obtain⟨c1,c2,rfl,h2,h3,h4⟩:=hr
   exact⟨c1,c2,rfl,by rw [h2,(da.lay h).2.1],da.sound hc h h3,fH.sound hc t h4⟩
theorem fH.atT (hc:Core W X Z0 μ Z H w) {sz:Nat}:∀ {x y:List LV} {cs:List Value},fH H x y->a6 Z μ w sz x cs->a6 Z bD w sz y cs
 | _,_,_,.nil,hr=>by simpa [a6] using hr
 | _,_,_,.cons h t,hr=>by
   simp only [a6] at hr ⊢
   obtain⟨c1,c2,rfl,h2,h3,h4⟩:=hr
   exact⟨c1,c2,rfl,h2,da.sound hc h h3,fH.atT hc t h4⟩
end
mutual
theorem da.le (hle:H.le H'):∀ {x y:LV},da H x y->da H' x y
 | _,_,.pure h=>.pure h
 | _,_,.nil sz=>.nil sz
 | _,_,.ref hb hs hp hl hf=>by
   obtain⟨m,g1,g2,_⟩:=hle _ _ hb
   exact da.ref (blk:=⟨_,_,m⟩) g1 hs hp hl (g2 hf)
 | _,_,.aF hb hs hi hx hy hp hf=>by
   obtain⟨m,g1,g2,_⟩:=hle _ _ hb
   exact da.aF (blk:=⟨_,_,m⟩) g1 hs hi hx hy hp (g2 hf)
 | _,_,.aeC hb hs hl hf h=>by
   obtain⟨m,g1,g2,_⟩:=hle _ _ hb
   exact da.aeC (blk:=⟨_,_,m⟩) g1 hs hl (g2 hf) (fH.le hle h)
 | _,_,.agg h=>.agg (fH.le hle h)
theorem fH.le (hle:H.le H'):∀ {x y:List LV},fH H x y->fH H' x y
 | _,_,.nil=>.nil
 | _,_,.cons h t=>.cons (da.le hle h) (fH.le hle t)
end
theorem da.ne {x y:LV} (h:da H x y):x≠.any/\∀ l,x≠.a9 l:=by
 cases h with
 | pure h=>exact⟨LV.dT h,LV.dG h⟩
 | _=>exact⟨by simp,by simp⟩
theorem da.abf (hc:Core W X Z0 μ Z H w) {x y:LV} {v:Value} (h:da H x y) (hr:bu Z μ w x v):fN Z bD w y v:=by
 have h1:=bu.yi h.ne.2 h.ne.1 hr
 obtain⟨e1,_,_⟩:=h.lay
 exact⟨fun e=>let ⟨cs,g1,g2⟩:=h1.1 (e1 ▸ e);⟨cs,g1,da.sound hc h g2⟩,fun e=>da.sound hc h (h1.2 (e1 ▸ e))⟩
end
end Go.Lg
end
