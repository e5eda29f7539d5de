/- Texts LgE of this proof, joined. -/
import Derived.Orders
import Derived.Below
import Derived.Deep.MidRow
import Derived.Deep.AppendSrc
import Derived.Laws.MakeOwn
import Derived.WalkKit
import Derived.Laws.Externs
import Derived.Laws.BytesString
import Derived.Laws.Cells
set_option linter.unusedVariables false
set_option linter.unusedSimpArgs false
namespace Go.Lg
theorem ae {p:Prop} (h:p:=by omega):p:=h
theorem dW {p:Prop} (h:p:=by exact dT rfl (by first | exact .pure rfl | exact .pure (zf _) | exact .pure (kf _) | exact .pure (ar.pure _) | exact .pure (fh fZ _ _) | exact .pure (fh ar _ _))):p:=h
theorem aKA {p:Prop} (h:p:=by first | exact .pure rfl | exact .pure (zf _) | exact .pure (kf _) | exact .pure (ar.pure _) | exact .pure (fh fZ _ _) | exact .pure (fh ar _ _)):p:=h
theorem an {p:Prop} (h:p:=by decide +kernel):p:=h
theorem ak {p:Prop} (h:p:=by decide):p:=h
theorem sH {p:Prop} (h:p:=by exact .iw (d:=13) (news:=x.2.2.map fR) rfl rfl rfl rfl (by simp) (.inl rfl) (by decide) Tryz.underlying22 Tryz.underlying22 (show dj _ _ (fR 0) from Z3) T3 rfl B3 (.inr (.inl rfl)) (by simp;omega) (by simp;omega) (by decide)):p:=h
theorem gr {p:Prop} (h:p:=by exact ij [] rfl rfl rfl (ar.aw _) (qm _) cZ (.pure (ar.pure _))):p:=h
theorem cM {p:Prop} (h:p:=by exact .bin rfl rfl (agf (by omega))):p:=h
theorem cI {p:Prop} (h:p:=by simp [LV.aw,cU,ar.aw]):p:=h
theorem bw {p:Prop} (h:p:=by simp;omega):p:=h
theorem abA {p:Prop} (h:p:=by exact .iw (d:=1) (news:=[.agg [.list 6 ((x.1.take na).map aH),.list 6 ((x.1.drop na).map aH),ai (kT (lk (x.1.take na) (x.1.drop na))),ai (kV (lk (x.1.take na) (x.1.drop na)))]]) rfl rfl rfl rfl (by simp) (.inl rfl) (by decide) Tryz.underlying43 Tryz.underlying43 yd qF rfl B51 (.inl ⟨143,0,_,rfl,by decide,rfl,rfl,by simp,rfl,aDz⟩) (by simp;omega) (by simp;omega) (by decide)):p:=h
theorem yN {p:Prop} (h:p:=by exact .iw (d:=39) (news:=[aW (dpF l j)]) rfl rfl rfl rfl (by simp) (.inl rfl) (by decide) Tryz.underlying26 Tryz.underlying26 Z42 tW cs B42 (.inl ⟨38,0,_,rfl,by decide,rfl,rfl,by simp,rfl,by simp [aN,bH.pure]⟩) (by simp;omega) (by simp;omega) (by decide)):p:=h
theorem xd {p:Prop} (h:p:=by exact .iw (d:=6) (news:=x.1.map aH) rfl rfl rfl rfl (by simp) (.inl rfl) (by decide) Tryz.underlying49 Tryz.underlying49 abr (by rw [cg.isAgg];exact nm) cs B54 (.inr (.inl rfl)) (by simp;omega) (by simp;omega) (by decide)):p:=h
theorem bS {p:Prop} (h:p:=by simp [Op.operands]):p:=h
theorem aT {p:Prop} (h:p:=by simp):p:=h
theorem ti {p:Prop} (h:p:=by exact ⟨_,trivial,((aj (aj (aj (aj (aj (bG cl) cl) cl) cl) cl) cl)).symm⟩):p:=h
theorem kL {p:Prop} (h:p:=by exact .bin rfl rfl (afB (by omega) (by omega))):p:=h
theorem iT {p:Prop} (h:p:=by first | assumption | exact cS _):p:=h
theorem mq {p:Prop} (h:p:=by first | omega | (simp only [List.length_map];omega)):p:=h
theorem tO {p:Prop} (h:p:=by exact ij [] rfl rfl rfl (cg.aw _) (aaD _) nm (.pure (cg.pure _))):p:=h
theorem lC {p:Prop} (h:p:=by simp [Op.operands,Call.operands]):p:=h
theorem afW {p:Prop} (h:p:=by rw [show (tT (jA (mF (kW u v)).a [(cF.getD 0 default).p] (cx.map aK.p)) (jA (mF (kW u v)).a [(cF.getD (cF.length-1) default).p] (cx.map aK.p)))=false from axb];simp):p:=h
theorem tj {p:Prop} (h:p:=by exact ij [] rfl rfl rfl cs (dS cs rfl) ju (.pure pu)):p:=h
theorem aks {p:Prop} (h:p:=by exact .iw (d:=26) (news:=[kG (qI x),kG (pX x)]) rfl rfl rfl rfl (by simp) (.inl rfl) (by decide) Tryz.underlying148 Tryz.underlying148 ano yJ rfl ayu (.inl ⟨155,0,_,rfl,by decide,rfl,rfl,by simp,rfl,by simp [aN,vz]⟩) (by simp;omega) (by simp;omega) (by decide)):p:=h
theorem ahJ {p:Prop} (h:p:=by exact .nx (n:=((jj:Nat):Int)) (r:=.agg [.list 6 ([s].map aH),.list 6 ([r].map aH),ai (cls.getD jj default).2.2.1,ai (cls.getD jj default).2.2.2]) rfl Tryz.underlying43 qF rfl (by omega) hcj rfl):p:=h
theorem aby {p:Prop} (h:p:=by first | exact ayY (by omega) aex | exact ayH (by omega) (by simpa using aek) | exact axJ (by omega)):p:=h
theorem abp {p:Prop} (h:p:=by first | omega | (simp only [qM,qZ,rE,rk];omega)):p:=h
theorem lR {p:Prop} (h:p:=by exact iD (i+1) (by omega)):p:=h
theorem ady {p:Prop} (h:p:=by first | exact .aq5 (h:=_) fZ rfl Tryz.underlying29 sa rfl om | exact .ah2 rfl Tryz.underlying29 sa rfl om om):p:=h
theorem cG {p:Prop} (h:p:=by grind):p:=h
theorem ma {p:Prop} (h:p:=by rw [List.length_map];omega):p:=h
theorem aaH {p:Prop} (h:p:=by exact ⟨[],cs,[],by simp,rfl,by rw [hl,hd,h2];rfl,by simpa using hy,by rw [h2];rfl⟩):p:=h
theorem rh {p:Prop} (h:p:=by first | rw [nS,hl] | rw [ni,hl]):p:=h
theorem aeK {p:Prop} (h:p:=by exact ij [] rfl rfl rfl rfl rfl cZ (.agg (.cons (.pure rfl) (.cons (.pure (kf _)) (.cons (.pure (kf _)) .nil))))):p:=h
theorem nH {p:Prop} (h:p:=by exact dT rfl (.pure rfl)):p:=h
theorem acy {p:Prop} (h:p:=by exact ⟨[],cs,[],by simp,rfl,by simpa [LV.aw] using hl,hr,rfl,rfl,by simp,by simp⟩):p:=h
theorem tE {p:Prop} (h:p:=by first | omega | (simp;done) | (simp;omega)):p:=h
theorem ai1 {p:Prop} (h:p:=by exact ⟨_,rfl,by rw [h0];simp [lay,ar.aw,ar.isAgg],by rw [h0];exact LV.fk (ar.pure _),by rw [h0];exact LV.eP (ar.pure _)⟩):p:=h
theorem ae5 {p:Prop} (h:p:=by exact ⟨_,trivial,((aj (aj (aj (aj (aj (aj (bG cl) cl) cl) cl) cl) cl) cl)).symm⟩):p:=h
theorem abm {p:Prop} (h:p:=by simp only [List.length_append,List.length_cons,List.length_nil];omega):p:=h
theorem avp {p:Prop} (h:p:=by exact .iw (d:=8) (news:=[ah (p.getD k 0)]) rfl rfl rfl rfl (by simp;omega) (.inl rfl) (by decide) Tryz.underlying25 Tryz.underlying25 lU cZ rfl mj (.inl ⟨19,0,_,rfl,by decide,rfl,rfl,by simp,rfl,by simp [aN,ar.pure]⟩) (by simp;omega) (by simp;omega) (by decide)):p:=h
theorem wg {p:Prop} (h:p:=by exact .bin rfl rfl (aau (by omega) (by omega))):p:=h
theorem ahU {p:Prop} (h:p:=by exact ⟨_,trivial,((aj (aj (aj (aj (aj (aj (aj (bG cl) cl) cl) cl) cl) cl) cl) cl)).symm⟩):p:=h
theorem ajV {p:Prop} (h:p:=by exact .wk (a:=i+1) (h:=k.length+1) rfl Tryz.underlying25 cZ (fun y hy=>by cases hy;exact⟨_,rfl⟩) (fun h=>by cases h) (fun y hy=>by cases hy) (fun _=>rfl) om om om):p:=h
theorem ajL {p:Prop} (h:p:=by exact .wk (a:=i) (h:=k.length+1) rfl Tryz.underlying25 cZ (fun y hy=>by cases hy;exact⟨_,rfl⟩) (fun h=>by cases h) (fun y hy=>by cases hy) (fun _=>rfl) om om om):p:=h
theorem ac6 {p:Prop} (h:p:=by exact .bin rfl rfl (acL (by first | omega | (simp only [qM,qZ,rE,rk];omega)))):p:=h
theorem afb {p:Prop} (h:p:=by exact vA [] rfl rfl rfl (ar.aw _) (qm _) cZ (.pure (ar.pure _)) rfl (.pure rfl)):p:=h
theorem anU {p:Prop} (h:p:=by exact aCQ [] rfl rfl rfl (ar.aw _) (qm _) cZ (.pure (ar.pure _)) rfl rfl (ar.aw _) (qm _) cZ (.pure (ar.pure _)) rfl (.pure rfl)):p:=h
theorem afY {p:Prop} (h:p:=by exact ⟨_,trivial,((aj (aj (aj (aj (bG cl) cl) cl) cl) cl)).symm⟩):p:=h
theorem ap4 {p:Prop} (h:p:=by exact .app rfl rfl rfl rfl rfl (Nat.zero_le _) (.inr rfl) (by decide) Tryz.underlying29 Tryz.underlying29 abY sa rfl acq (.inr (.inl rfl)) (by first | (simp;done) | (simp;omega)) (by first | (simp;done) | (simp;omega)) (by decide)):p:=h
theorem y9 {p:Prop} (h:p:=by first | omega | (simp only [ck];omega)):p:=h
theorem z8 {p:Prop} (h:p:=by exact .bin rfl rfl (sf (by omega) (by omega))):p:=h
theorem xP {p:Prop} (h:p:=by first | (simp;done) | (simp;omega) | omega):p:=h
theorem yg {p:Prop} (h:p:=by exact wL rfl (.pure rfl) rfl (.pure rfl)):p:=h
theorem arJ {p:Prop} (h:p:=by exact aJk rfl rfl cs (dS cs rfl) kt (by assumption) rfl rfl cs (dS cs rfl) kt (by assumption) rfl rfl (ar.aw _) (qm _) cZ (ar.pure _) rfl rfl (ar.aw _) (qm _) cZ (ar.pure _) rfl rfl):p:=h
theorem aed {p:Prop} (h:p:=by exact aca [] rfl rfl (.pure (kf _)) rfl (.pure (kf _)) rfl (.pure rfl)):p:=h
theorem qc {p:Prop} (h:p:=by exact .aG8 atT lU):p:=h
theorem avj {p:Prop} (h:p:=by exact ab6 (hQ (x-1) _ ⟨hxd,arK hVe hRe r7 (by omega) lh adS (Nat.le_of_lt ll.1) ll.2,ll.1⟩) (aj (aj (aj (aj (aj (aj (aj (bG cl) cl) cl) cl) cl) cl) cl) cl)):p:=h
theorem z9 {p:Prop} (h:p:=by rw [List.length_map,List.length_take];omega):p:=h
theorem vd {p:Prop} (h:p:=by first | rfl | (rw [auz];rfl)):p:=h
theorem zg {p:Prop} (h:p:=by exact .bin rfl rfl (wI (by omega))):p:=h
theorem mW {p:Prop} (h:p:=by simpa using h):p:=h
theorem ash {p:Prop} (h:p:=by rw [cg.isAgg];exact nm):p:=h
theorem nX {p:Prop} (h:p:=by rw [ig];omega):p:=h
theorem ahc {p:Prop} (h:p:=by exact ag0 rfl rfl cs (dS cs rfl) tW (.pure pu) rfl rfl (dv l _)):p:=h
theorem adM {p:Prop} (h:p:=by simp only [List.length_cons,List.length_map];omega):p:=h
theorem ada {p:Prop} (h:p:=by exact ij [] rfl rfl rfl rfl rfl cZ (.pure rfl)):p:=h
theorem ajb {p:Prop} (h:p:=by show rl (cJ p (l.getD i default))+rl (cJ p (l.getD i default))<=_;omega):p:=h
theorem aiK {p:Prop} (h:p:=by exact .fU rfl rfl rfl rfl (eo.aw m) (dS (eo.aw m) rfl) ym):p:=h
theorem yC {p:Prop} (h:p:=by exact iD (j+1) (by omega)):p:=h
theorem abK {p:Prop} (h:p:=by rw [List.take_append_drop];exact g4):p:=h
theorem ahL {p:Prop} (h:p:=by simp [LV.pure,aN,a7 ar,a7 bH,-List.map_map]):p:=h
theorem qj {p:Prop} (h:p:=by exact .inl h):p:=h
theorem afM {p:Prop} (h:p:=by exact .bin rfl rfl (aiJ (by omega) (by omega))):p:=h
end Go.Lg
open Array renaming ext'->u9,getElem?_eq_some_iff->mN,getElem?_toList->ab3,length_toList->nC,map->aff,size_push->ajX
open BitVec renaming ofInt->tI
open Bool renaming true_and->aku
open Decidable renaming not_not->aDI
open Int renaming ofNat->aiF
open List renaming cons_append->apx,drop_append->axD,drop_drop->qy,drop_of_length_le->jQ,eq_nil_of_length_eq_zero->m8,getElem?_append_left->aaz,getElem?_cons_zero->qo,getElem?_drop->sA,getElem?_eq_getElem->cq,getElem?_eq_none->xL,getElem?_eq_some_iff->oC,getElem?_map->iV,length->apt,length_append->k5,length_cons->qJ,length_drop->kE,length_map->fo,length_take->eG,map_cons->nv,mem_map->da,mem_of_getElem?->sb,mem_of_mem_drop->vL,mem_of_mem_take->vM,nil_append->afw,replicate->ay,set_cons_succ->aud,take_append_drop->vv,take_succ_cons->xy
open List.cons renaming injEq->fJ
open Nat renaming add_assoc->ph,add_mul->hY,add_zero->mf,le_refl->bp,lt_or_ge->gM,min_eq_left->lL,reduceAdd->aeY,zero_add->fw
open Option renaming map_eq_some_iff->zN,map_none->aiO,map_some->pY
open Option.some renaming injEq->fp
open Prod.mk renaming injEq->afT
section
set_option linter.unusedVariables false
set_option linter.unusedSimpArgs false
namespace Go.Lg
inductive LV where
 | any
 | v (x:Value)
 | list (sz:Nat) (l:List LV)
 | agg (l:List LV)
 | ref (b sz off len:Nat)
 | ka (b sz off len cap:Nat)
 | aB (b sz i o:Nat)
 | cm (c:LV)
 | dk (f:FuncId) (cap:List LV)
 | bf (l:List LV)
instance:Inhabited LV:=⟨.any⟩
mutual
def LV.aw:LV->Nat
 | .agg l=>cU l
 | _=>1
def cU:List LV->Nat
 | []=>0
 | x :: xs=>x.aw+cU xs
end
def LV.isAgg:LV->Bool
 | .agg _=>true
 | _=>false
mutual
def LV.pure:LV->Bool
 | .ref ..=>false
 | .ka ..=>false
 | .aB ..=>false
 | .bf _=>false
 | .any=>false
 | .v _=>true
 | .list _ l=>aN l
 | .agg l=>aN l
 | .cm c=>c.pure
 | .dk _ l=>aN l
def aN:List LV->Bool
 | []=>true
 | x :: xs=>x.pure && aN xs
end
theorem yV (l:List LV):aN l=true↔∀ x∈l,x.pure=true:=by
 induction l with
 | nil=>simp [aN]
 | cons x xs ih=>simp [aN,ih]
mutual
def aC (Z:Nat->Prop) (μ:Nat->Option Nat) (w:World):LV->List Value->Prop
 | .any,cs=>∀ u∈cs,u.oneCell'=true
 | .v x,cs=>cs=[x]/\x.oneCell'=true
 | .list sz l,cs=>∃ a len cap,cs=[.slice a len cap]/\len=l.length/\len<=cap /\
   (l=[]\/∃ blk off c T fz part rest,a=some ⟨blk,off,none⟩/\Z blk/\w.heap[blk]?=some (.cells c T fz) /\
    c.toList.drop off=part++rest/\aR Z μ w sz l part)/\aN l=true
 | .agg l,cs=>cA Z μ w l cs
 | .ref b sz off len,cs=>(cs=[.slice none 0 0]/\len=0)\/∃ id cap c T fz,cs=[.slice (some ⟨id,off*sz,none⟩) len cap]/\μ b=some id/\len<=cap /\
   w.heap[id]?=some (.cells c T fz)/\(off+cap)*sz<=c.size
 | .ka b sz off len cap,cs=>∃ id c T fz,cs=[.slice (some ⟨id,off*sz,none⟩) len cap]/\μ b=some id/\len<=cap /\
   w.heap[id]?=some (.cells c T fz)/\(off+cap)*sz<=c.size
 | .aB b sz i o,cs=>∃ id,cs=[.pointer (some ⟨id,i*sz+o,none⟩)]/\μ b=some id
 | .cm c,cs=>∃ blk off cc T fz part rest,cs=[.pointer (some ⟨blk,off,none⟩)]/\Z blk/\w.heap[blk]?=some (.cells cc T fz) /\
   cc.toList.drop off=part++rest/\part.length=c.aw/\aC Z μ w c part/\c.pure=true
 | .dk f cap,cs=>∃ vs,cs=[.func (.func f) #[] vs]/\aR Z μ w 1 cap vs.toList/\aN cap=true
 | .bf _,_=>False
def aR (Z:Nat->Prop) (μ:Nat->Option Nat) (w:World) (sz:Nat):List LV->List Value->Prop
 | [],cs=>cs=[]
 | x :: xs,cs=>∃ c1 c2,cs=c1++c2/\c1.length=sz/\aC Z μ w x c1/\aR Z μ w sz xs c2
def cA (Z:Nat->Prop) (μ:Nat->Option Nat) (w:World):List LV->List Value->Prop
 | [],cs=>cs=[]
 | x :: xs,cs=>∃ c1 c2,cs=c1++c2/\c1.length=x.aw/\aC Z μ w x c1/\cA Z μ w xs c2
end
def fM (Z:Nat->Prop) (μ:Nat->Option Nat) (w:World) (lv:LV) (v:Value):Prop :=
 (lv.isAgg=true->∃ cs,v=.agg cs/\aC Z μ w lv cs.toList)/\(lv.isAgg=false->aC Z μ w lv [v])
def fY (Z:Nat->Prop) (μ:Nat->Option Nat) (w:World):List LV->List Value->Prop
 | [],vs=>vs=[]
 | x :: xs,vs=>∃ v jT,vs=v :: jT/\fM Z μ w x v/\fY Z μ w xs jT
def bj (Z:Nat->Prop) (μ:Nat->Option Nat) (w:World):LV->Value->Prop
 | .bf l,v=>∃ vs,v=.tuple vs/\fY Z μ w l vs.toList
 | .any,_=>True
 | lv,v=>fM Z μ w lv v
structure Frame (Z:Nat->Prop) (μ:Nat->Option Nat) (w w':World):Prop where
 z:∀ id,Z id->w'.heap[id]?=w.heap[id]?
 m:∀ b id,μ b=some id->∀ c T fz,w.heap[id]?=some (.cells c T fz)->∃ c',w'.heap[id]?=some (.cells c' T fz)/\c'.size=c.size
theorem Frame.refl (Z:Nat->Prop) (μ:Nat->Option Nat) (w:World):Frame Z μ w w:=⟨fun _ _=>rfl,fun _ _ _ c _ _ h=>⟨c,h,rfl⟩⟩
section
variable {Z Z':Nat->Prop} {μ bm:Nat->Option Nat} {w w':World}
mutual
theorem aC.mono (hz:∀ id,Z id->Z' id) (hm:∀ b id,μ b=some id->bm b=some id) (hf:Frame Z μ w w') :
  ∀ (lv:LV) (cs:List Value),aC Z μ w lv cs->aC Z' bm w' lv cs
 | .any,_,h=>by simpa [aC] using h
 | .v x,cs,h=>by simpa [aC] using h
 | .list sz l,cs,h=>by
   simp only [aC] at h ⊢
   obtain⟨a,len,cap,h1,h2,h3,h4,h9⟩:=h
   refine⟨a,len,cap,h1,h2,h3,?_,h9⟩
   rcases h4 with h4 | ⟨blk,off,c,T,fz,part,rest,e1,e2,e3,e4,e5⟩
   ·exact .inl h4
   ·exact .inr ⟨blk,off,c,T,fz,part,rest,e1,hz _ e2,(hf.z _ e2).trans e3,e4,aR.mono hz hm hf sz l part e5⟩
 | .agg l,cs,h=>by
   simp only [aC] at h ⊢
   exact cA.mono hz hm hf l cs h
 | .ref b sz off len,cs,h=>by
   simp only [aC] at h ⊢
   rcases h with h | ⟨id,cap,c,T,fz,h1,h2,h3,h4,h5⟩
   ·exact qj
   obtain⟨c',h6,h7⟩:=hf.m b id h2 c T fz h4
   exact .inr ⟨id,cap,c',T,fz,h1,hm _ _ h2,h3,h6,ae⟩
 | .ka b sz off len cap,cs,h=>by
   simp only [aC] at h ⊢
   obtain⟨id,c,T,fz,h1,h2,h3,h4,h5⟩:=h
   obtain⟨c',h6,h7⟩:=hf.m b id h2 c T fz h4
   exact⟨id,c',T,fz,h1,hm _ _ h2,h3,h6,ae⟩
 | .aB b sz i o,cs,h=>by
   simp only [aC] at h ⊢
   obtain⟨id,h1,h2⟩:=h
   exact⟨id,h1,hm _ _ h2⟩
 | .cm c,cs,h=>by
   simp only [aC] at h ⊢
   obtain⟨blk,off,cc,T,fz,part,rest,h1,h2,h3,h4,h5,h6,h7⟩:=h
   exact⟨blk,off,cc,T,fz,part,rest,h1,hz _ h2,(hf.z _ h2).trans h3,h4,h5,aC.mono hz hm hf c part h6,h7⟩
 | .dk f cap,cs,h=>by
   simp only [aC] at h ⊢
   obtain⟨vs,h1,h2,h3⟩:=h
   exact⟨vs,h1,aR.mono hz hm hf 1 cap vs.toList h2,h3⟩
 | .bf _,_,h=>by simp [aC] at h
theorem aR.mono (hz:∀ id,Z id->Z' id) (hm:∀ b id,μ b=some id->bm b=some id) (hf:Frame Z μ w w') (sz:Nat) :
  ∀ (l:List LV) (cs:List Value),aR Z μ w sz l cs->aR Z' bm w' sz l cs
 | [],cs,h=>by simpa [aR] using h
 | x :: xs,cs,h=>by
   simp only [aR] at h ⊢
   obtain⟨c1,c2,h1,h2,h3,h4⟩:=h
   exact⟨c1,c2,h1,h2,aC.mono hz hm hf x c1 h3,aR.mono hz hm hf sz xs c2 h4⟩
theorem cA.mono (hz:∀ id,Z id->Z' id) (hm:∀ b id,μ b=some id->bm b=some id) (hf:Frame Z μ w w') :
  ∀ (l:List LV) (cs:List Value),cA Z μ w l cs->cA Z' bm w' l cs
 | [],cs,h=>by simpa [cA] using h
 | x :: xs,cs,h=>by
   simp only [cA] at h ⊢
   obtain⟨c1,c2,h1,h2,h3,h4⟩:=h
   exact⟨c1,c2,h1,h2,aC.mono hz hm hf x c1 h3,cA.mono hz hm hf xs c2 h4⟩
end
theorem pure_cons {x:LV} {xs:List LV} (h:aN (x :: xs)=true):x.pure=true/\aN xs=true:=by simpa [aN] using h
mutual
theorem aC.kv (hz:∀ id,Z id->Z' id) (hf:∀ id,Z id->w'.heap[id]?=w.heap[id]?) :
  ∀ (lv:LV) (cs:List Value),lv.pure=true->aC Z μ w lv cs->aC Z' bm w' lv cs
 | .any,_,_,h=>by simpa [aC] using h
 | .v x,cs,_,h=>by simpa [aC] using h
 | .list sz l,cs,hp,h=>by
   simp only [aC] at h ⊢
   obtain⟨a,len,cap,h1,h2,h3,h4,h9⟩:=h
   refine⟨a,len,cap,h1,h2,h3,?_,h9⟩
   rcases h4 with h4 | ⟨blk,off,c,T,fz,part,rest,e1,e2,e3,e4,e5⟩
   ·exact .inl h4
   ·exact .inr ⟨blk,off,c,T,fz,part,rest,e1,hz _ e2,(hf _ e2).trans e3,e4,aR.kv hz hf sz l part (by simpa [LV.pure] using hp) e5⟩
 | .agg l,cs,hp,h=>by
   simp only [aC] at h ⊢
   exact cA.kv hz hf l cs (by simpa [LV.pure] using hp) h
 | .ref b sz off len,cs,hp,_=>by simp [LV.pure] at hp
 | .ka b sz off len cap,cs,hp,_=>by simp [LV.pure] at hp
 | .aB b sz i o,cs,hp,_=>by simp [LV.pure] at hp
 | .cm c,cs,hp,h=>by
   simp only [aC] at h ⊢
   obtain⟨blk,off,cc,T,fz,part,rest,h1,h2,h3,h4,h5,h6,h7⟩:=h
   exact⟨blk,off,cc,T,fz,part,rest,h1,hz _ h2,(hf _ h2).trans h3,h4,h5,aC.kv hz hf c part (by simpa [LV.pure] using hp) h6,h7⟩
 | .dk f cap,cs,hp,h=>by
   simp only [aC] at h ⊢
   obtain⟨vs,h1,h2,h3⟩:=h
   exact⟨vs,h1,aR.kv hz hf 1 cap vs.toList (by simpa [LV.pure] using hp) h2,h3⟩
 | .bf _,_,_,h=>by simp [aC] at h
theorem aR.kv (hz:∀ id,Z id->Z' id) (hf:∀ id,Z id->w'.heap[id]?=w.heap[id]?) (sz:Nat) :
  ∀ (l:List LV) (cs:List Value),aN l=true->aR Z μ w sz l cs->aR Z' bm w' sz l cs
 | [],cs,_,h=>by simpa [aR] using h
 | x :: xs,cs,hp,h=>by
   simp only [aR] at h ⊢
   obtain⟨c1,c2,h1,h2,h3,h4⟩:=h
   exact⟨c1,c2,h1,h2,aC.kv hz hf x c1 (pure_cons hp).1 h3,aR.kv hz hf sz xs c2 (pure_cons hp).2 h4⟩
theorem cA.kv (hz:∀ id,Z id->Z' id) (hf:∀ id,Z id->w'.heap[id]?=w.heap[id]?) :
  ∀ (l:List LV) (cs:List Value),aN l=true->cA Z μ w l cs->cA Z' bm w' l cs
 | [],cs,_,h=>by simpa [cA] using h
 | x :: xs,cs,hp,h=>by
   simp only [cA] at h ⊢
   obtain⟨c1,c2,h1,h2,h3,h4⟩:=h
   exact⟨c1,c2,h1,h2,aC.kv hz hf x c1 (pure_cons hp).1 h3,cA.kv hz hf xs c2 (pure_cons hp).2 h4⟩
end
theorem fM.mono (hz:∀ id,Z id->Z' id) (hm:∀ b id,μ b=some id->bm b=some id) (hf:Frame Z μ w w') {lv:LV} {v:Value}
  (h:fM Z μ w lv v):fM Z' bm w' lv v :=
 ⟨fun e=>let ⟨cs,h1,h2⟩:=h.1 e;⟨cs,h1,aC.mono hz hm hf _ _ h2⟩,fun e=>aC.mono hz hm hf _ _ (h.2 e)⟩
theorem fY.mono (hz:∀ id,Z id->Z' id) (hm:∀ b id,μ b=some id->bm b=some id) (hf:Frame Z μ w w') :
  ∀ (l:List LV) (vs:List Value),fY Z μ w l vs->fY Z' bm w' l vs
 | [],_,h=>h
 | _ :: xs,_,⟨v,jT,h1,h2,h3⟩=>⟨v,jT,h1,h2.mono hz hm hf,fY.mono hz hm hf xs jT h3⟩
theorem bj.mono (hz:∀ id,Z id->Z' id) (hm:∀ b id,μ b=some id->bm b=some id) (hf:Frame Z μ w w') {lv:LV} {v:Value}
  (h:bj Z μ w lv v):bj Z' bm w' lv v:=by
 cases lv with
 | bf l=>obtain⟨vs,h1,h2⟩:=h;exact⟨vs,h1,h2.mono hz hm hf⟩
 | any=>trivial
 | _=>exact fM.mono hz hm hf h
theorem fM.kv (hz:∀ id,Z id->Z' id) (hf:∀ id,Z id->w'.heap[id]?=w.heap[id]?) {lv:LV} {v:Value} (hp:lv.pure=true)
  (h:fM Z μ w lv v):fM Z' bm w' lv v :=
 ⟨fun e=>let ⟨cs,h1,h2⟩:=h.1 e;⟨cs,h1,aC.kv hz hf _ _ hp h2⟩,fun e=>aC.kv hz hf _ _ hp (h.2 e)⟩
theorem bj.sN {lv:LV} {v:Value} (hn:∀ l,lv≠.bf l) (h:fM Z μ w lv v):bj Z μ w lv v:=by
 cases lv with
 | bf l=>exact absurd rfl (hn l)
 | any=>trivial
 | _=>exact h
theorem bj.yU {lv:LV} {v:Value} (hn:∀ l,lv≠.bf l) (ha:lv≠.any) (h:bj Z μ w lv v):fM Z μ w lv v:=by
 cases lv with
 | bf l=>exact absurd rfl (hn l)
 | any=>exact absurd rfl ha
 | _=>exact h
theorem LV.fk {lv:LV} (hp:lv.pure=true):lv≠.any:=by
 rintro rfl;simp [LV.pure] at hp
theorem LV.eP {lv:LV} (hp:lv.pure=true):∀ l,lv≠.bf l:=by
 rintro l rfl;simp [LV.pure] at hp
theorem aR.length {sz:Nat}:∀ (l:List LV) (cs:List Value),aR Z μ w sz l cs->cs.length=l.length*sz
 | [],cs,h=>by simp only [aR] at h;simp [h]
 | x :: xs,cs,h=>by
   simp only [aR] at h
   obtain⟨c1,c2,rfl,h2,_,h4⟩:=h
   have:=aR.length xs c2 h4
   simp only [k5,qJ,hY,Nat.one_mul];omega
theorem cA.length:∀ (l:List LV) (cs:List Value),cA Z μ w l cs->cs.length=cU l
 | [],cs,h=>by simp only [cA] at h;simp [h,cU]
 | x :: xs,cs,h=>by
   simp only [cA] at h
   obtain⟨c1,c2,rfl,h2,_,h4⟩:=h
   have:=cA.length xs c2 h4
   simp only [k5,cU];omega
theorem aR.get {sz:Nat}:∀ (l:List LV) (cs:List Value) (i:Nat) (x:LV),aR Z μ w sz l cs->l[i]?=some x ->
  ∃ pre ch post,cs=pre++(ch++post)/\pre.length=i*sz/\ch.length=sz/\aC Z μ w x ch /\
   ∀ y qf,aC Z μ w y qf->qf.length=sz->aR Z μ w sz (l.set i y) (pre++(qf++post))
 | [],_,_,_,_,h=>by simp at h
 | a :: xs,cs,0,x,h,hi=>by
   simp only [aR] at h
   obtain⟨c1,c2,rfl,h2,h3,h4⟩:=h
   simp only [qo,fp] at hi
   subst hi
   exact⟨[],c1,c2,by simp,by simp,h2,h3,fun y qf hy hl=>by simpa [aR] using ⟨qf,c2,rfl,hl,hy,h4⟩⟩
 | a :: xs,cs,i+1,x,h,hi=>by
   simp only [aR] at h
   obtain⟨c1,c2,rfl,h2,h3,h4⟩:=h
   obtain⟨pre,ch,post,rfl,e2,e3,e4,e5⟩:=aR.get xs c2 i x h4 (by simpa using hi)
   refine⟨c1++pre,ch,post,by simp,by simp [h2,e2,hY];omega,e3,e4,fun y qf hy hl=>?_⟩
   have:=e5 y qf hy hl
   simp only [aud,aR]
   exact⟨c1,pre++(qf++post),by simp,h2,h3,this⟩
theorem cA.get:∀ (l:List LV) (cs:List Value) (i:Nat) (x:LV),cA Z μ w l cs->l[i]?=some x ->
  ∃ pre ch post,cs=pre++(ch++post)/\pre.length=cU (l.take i)/\ch.length=x.aw/\aC Z μ w x ch /\
   ∀ y qf,aC Z μ w y qf->qf.length=y.aw->cA Z μ w (l.set i y) (pre++(qf++post))
 | [],_,_,_,_,h=>by simp at h
 | a :: xs,cs,0,x,h,hi=>by
   simp only [cA] at h
   obtain⟨c1,c2,rfl,h2,h3,h4⟩:=h
   simp only [qo,fp] at hi
   subst hi
   exact⟨[],c1,c2,by simp,by simp [cU],h2,h3,fun y qf hy hl=>by simpa [cA] using ⟨qf,c2,rfl,hl,hy,h4⟩⟩
 | a :: xs,cs,i+1,x,h,hi=>by
   simp only [cA] at h
   obtain⟨c1,c2,rfl,h2,h3,h4⟩:=h
   obtain⟨pre,ch,post,rfl,e2,e3,e4,e5⟩:=cA.get xs c2 i x h4 (by simpa using hi)
   refine⟨c1++pre,ch,post,by simp,by simp [h2,e2,cU],e3,e4,fun y qf hy hl=>?_⟩
   have:=e5 y qf hy hl
   simp only [aud,cA]
   exact⟨c1,pre++(qf++post),by simp,h2,h3,this⟩
theorem aR.append {sz:Nat}:∀ (l m:List LV) (cs ds:List Value),aR Z μ w sz l cs->aR Z μ w sz m ds->aR Z μ w sz (l++m) (cs++ds)
 | [],m,cs,ds,h,h'=>by simp only [aR] at h;simpa [h] using h'
 | x :: xs,m,cs,ds,h,h'=>by
   simp only [aR] at h
   obtain⟨c1,c2,rfl,h2,h3,h4⟩:=h
   have:=aR.append xs m c2 ds h4 h'
   simp only [apx,aR]
   exact⟨c1,c2++ds,by simp,h2,h3,this⟩
theorem aR.split {sz:Nat}:∀ (l m:List LV) (cs:List Value),aR Z μ w sz (l++m) cs->∃ c1 c2,cs=c1++c2/\aR Z μ w sz l c1/\aR Z μ w sz m c2
 | [],m,cs,h=>⟨[],cs,rfl,by simp [aR],h⟩
 | x :: xs,m,cs,h=>by
   simp only [apx,aR] at h
   obtain⟨c1,c2,rfl,h2,h3,h4⟩:=h
   obtain⟨d1,d2,rfl,e1,e2⟩:=aR.split xs m c2 h4
   exact⟨c1++d1,d2,by simp,by simpa [aR] using ⟨c1,d1,rfl,h2,h3,e1⟩,e2⟩
theorem aR.replicate {sz:Nat} {x:LV} {ch:List Value} (h:aC Z μ w x ch) (hl:ch.length=sz):∀ n,aR Z μ w sz (ay n x) (ay n ch).flatten
 | 0=>by simp [aR]
 | n+1=>by
   simp only [List.replicate_succ,aR,List.flatten_cons]
   exact⟨ch,_,rfl,hl,h,aR.replicate h hl n⟩
end
mutual
def LV.at:LV->Nat->Nat->Bool->Option LV
 | .agg l,o,n,ag=>if o=0/\cU l=n/\ag=true then some (.agg l) else uh l o n ag
 | .any,_,_,_=>none
 | x,o,n,ag=>if o=0/\n=1/\ag=false then some x else none
def uh:List LV->Nat->Nat->Bool->Option LV
 | [],_,_,_=>none
 | x :: xs,o,n,ag=>if o<x.aw then x.at o n ag else uh xs (o-x.aw) n ag
end
mutual
def LV.put:LV->Nat->LV->Option LV
 | .agg l,o,y=>if o=0/\cU l=y.aw/\y.isAgg=true then some y else(yO l o y).map .agg
 | _,o,y=>if o=0/\y.aw=1/\y.isAgg=false then some y else none
def yO:List LV->Nat->LV->Option (List LV)
 | [],_,_=>none
 | x :: xs,o,y=>if o<x.aw then(x.put o y).map (· :: xs) else(yO xs (o-x.aw) y).map (x :: ·)
end
section
variable {Z:Nat->Prop} {μ:Nat->Option Nat} {w:World}
mutual
theorem LV.aj3:∀ (x:LV) (o n:Nat) (ag:Bool) (y:LV) (cs:List Value),x.at o n ag=some y->aC Z μ w x cs->cs.length=x.aw ->
  ∃ pre ch post,cs=pre++(ch++post)/\pre.length=o/\ch.length=n/\aC Z μ w y ch/\y.isAgg=ag/\y.aw=n/\y≠.any/\∀ l,y≠.bf l
 | .agg l,o,n,ag,y,cs,h,hr,hl=>by
   simp only [LV.at] at h
   split at h
   ·rename_i hc
    obtain⟨rfl,h2,rfl⟩:=hc
    simp only [fp] at h;subst h
    exact⟨[],cs,[],by simp,rfl,by simpa [LV.aw,h2] using hl,hr,rfl,by simp [LV.aw,h2],by simp,by simp⟩
   ·exact ari l o n ag y cs h (by simpa [aC] using hr)
 | .any,_,_,_,_,_,h,_,_=>by simp [LV.at] at h
 | .v x,o,n,ag,y,cs,h,hr,hl=>by
   simp only [LV.at] at h;split at h
   ·rename_i hc;obtain⟨rfl,rfl,rfl⟩:=hc;simp only [fp] at h;subst h
    exact acy
   ·simp at h
 | .list sz l,o,n,ag,y,cs,h,hr,hl=>by
   simp only [LV.at] at h;split at h
   ·rename_i hc;obtain⟨rfl,rfl,rfl⟩:=hc;simp only [fp] at h;subst h
    exact acy
   ·simp at h
 | .ref b sz off len,o,n,ag,y,cs,h,hr,hl=>by
   simp only [LV.at] at h;split at h
   ·rename_i hc;obtain⟨rfl,rfl,rfl⟩:=hc;simp only [fp] at h;subst h
    exact acy
   ·simp at h
 | .ka b sz off len cap,o,n,ag,y,cs,h,hr,hl=>by
   simp only [LV.at] at h;split at h
   ·rename_i hc;obtain⟨rfl,rfl,rfl⟩:=hc;simp only [fp] at h;subst h
    exact acy
   ·simp at h
 | .aB b sz i o',o,n,ag,y,cs,h,hr,hl=>by
   simp only [LV.at] at h;split at h
   ·rename_i hc;obtain⟨rfl,rfl,rfl⟩:=hc;simp only [fp] at h;subst h
    exact acy
   ·simp at h
 | .cm c,o,n,ag,y,cs,h,hr,hl=>by
   simp only [LV.at] at h;split at h
   ·rename_i hc;obtain⟨rfl,rfl,rfl⟩:=hc;simp only [fp] at h;subst h
    exact acy
   ·simp at h
 | .dk f cap,o,n,ag,y,cs,h,hr,hl=>by
   simp only [LV.at] at h;split at h
   ·rename_i hc;obtain⟨rfl,rfl,rfl⟩:=hc;simp only [fp] at h;subst h
    exact acy
   ·simp at h
 | .bf _,_,_,_,_,_,_,hr,_=>by simp [aC] at hr
theorem ari:∀ (l:List LV) (o n:Nat) (ag:Bool) (y:LV) (cs:List Value),uh l o n ag=some y->cA Z μ w l cs ->
  ∃ pre ch post,cs=pre++(ch++post)/\pre.length=o/\ch.length=n/\aC Z μ w y ch/\y.isAgg=ag/\y.aw=n/\y≠.any/\∀ l,y≠.bf l
 | [],_,_,_,_,_,h,_=>by simp [uh] at h
 | x :: xs,o,n,ag,y,cs,h,hr=>by
   simp only [cA] at hr
   obtain⟨c1,c2,rfl,h2,h3,h4⟩:=hr
   simp only [uh] at h
   split at h
   ·obtain⟨pre,ch,post,rfl,e2,e3,e4⟩:=LV.aj3 x o n ag y c1 h h3 h2
    exact⟨pre,ch,post++c2,by simp,e2,e3,e4⟩
   ·obtain⟨pre,ch,post,rfl,e2,e3,e4⟩:=ari xs (o-x.aw) n ag y c2 h h4
    exact⟨c1++pre,ch,post,by simp,by simp;omega,e3,e4⟩
end
mutual
theorem LV.atc (y:LV) (dh:List Value) (hy:aC Z μ w y dh) (hd:dh.length=y.aw):∀ (x:LV) (o:Nat) (x':LV) (cs:List Value),x.put o y=some x' ->
  aC Z μ w x cs->cs.length=x.aw->∃ pre ch post,cs=pre++(ch++post)/\pre.length=o/\ch.length=dh.length/\aC Z μ w x' (pre++(dh++post))/\x'.aw=x.aw
 | .agg l,o,x',cs,h,hr,hl=>by
   simp only [LV.put] at h
   split at h
   ·rename_i hc
    obtain⟨rfl,h2,_⟩:=hc
    simp only [fp] at h;subst h
    exact⟨[],cs,[],by simp,rfl,by rw [hl,hd];simp [LV.aw,h2],by simpa using hy,by simp [LV.aw,h2]⟩
   ·simp only [zN] at h
    obtain⟨l',h1,rfl⟩:=h
    obtain⟨pre,ch,post,e1,e2,e3,e4,e5⟩:=arz y dh hy hd l o l' cs h1 (by simpa [aC] using hr)
    exact⟨pre,ch,post,e1,e2,e3,by simpa [aC] using e4,by simpa [LV.aw] using e5⟩
 | .any,o,x',cs,h,hr,hl=>by
   simp only [LV.put] at h;split at h
   ·rename_i hc;obtain⟨rfl,h2,_⟩:=hc;simp only [fp] at h;subst h
    exact aaH
   ·simp at h
 | .v x,o,x',cs,h,hr,hl=>by
   simp only [LV.put] at h;split at h
   ·rename_i hc;obtain⟨rfl,h2,_⟩:=hc;simp only [fp] at h;subst h
    exact aaH
   ·simp at h
 | .list sz l,o,x',cs,h,hr,hl=>by
   simp only [LV.put] at h;split at h
   ·rename_i hc;obtain⟨rfl,h2,_⟩:=hc;simp only [fp] at h;subst h
    exact aaH
   ·simp at h
 | .ref b sz off len,o,x',cs,h,hr,hl=>by
   simp only [LV.put] at h;split at h
   ·rename_i hc;obtain⟨rfl,h2,_⟩:=hc;simp only [fp] at h;subst h
    exact aaH
   ·simp at h
 | .ka b sz off len cap,o,x',cs,h,hr,hl=>by
   simp only [LV.put] at h;split at h
   ·rename_i hc;obtain⟨rfl,h2,_⟩:=hc;simp only [fp] at h;subst h
    exact aaH
   ·simp at h
 | .aB b sz i o',o,x',cs,h,hr,hl=>by
   simp only [LV.put] at h;split at h
   ·rename_i hc;obtain⟨rfl,h2,_⟩:=hc;simp only [fp] at h;subst h
    exact aaH
   ·simp at h
 | .cm c,o,x',cs,h,hr,hl=>by
   simp only [LV.put] at h;split at h
   ·rename_i hc;obtain⟨rfl,h2,_⟩:=hc;simp only [fp] at h;subst h
    exact aaH
   ·simp at h
 | .dk f cap,o,x',cs,h,hr,hl=>by
   simp only [LV.put] at h;split at h
   ·rename_i hc;obtain⟨rfl,h2,_⟩:=hc;simp only [fp] at h;subst h
    exact aaH
   ·simp at h
 | .bf _,_,_,_,_,hr,_=>by simp [aC] at hr
theorem arz (y:LV) (dh:List Value) (hy:aC Z μ w y dh) (hd:dh.length=y.aw):∀ (l:List LV) (o:Nat) (l':List LV) (cs:List Value),yO l o y=some l' ->
  cA Z μ w l cs->∃ pre ch post,cs=pre++(ch++post)/\pre.length=o/\ch.length=dh.length/\cA Z μ w l' (pre++(dh++post))/\cU l'=cU l
 | [],_,_,_,h,_=>by simp [yO] at h
 | x :: xs,o,l',cs,h,hr=>by
   simp only [cA] at hr
   obtain⟨c1,c2,rfl,h2,h3,h4⟩:=hr
   simp only [yO] at h
   split at h
   ·simp only [zN] at h
    obtain⟨x',h1,rfl⟩:=h
    obtain⟨pre,ch,post,rfl,e2,e3,e4,e5⟩:=LV.atc y dh hy hd x o x' c1 h1 h3 h2
    refine⟨pre,ch,post++c2,by simp,e2,e3,?_,by simp [cU,e5]⟩
    simp only [cA]
    exact⟨pre++(dh++post),c2,by simp,by simp at h2 ⊢;omega,e4,h4⟩
   ·simp only [zN] at h
    obtain⟨xs',h1,rfl⟩:=h
    obtain⟨pre,ch,post,rfl,e2,e3,e4,e5⟩:=arz y dh hy hd xs (o-x.aw) xs' c2 h1 h4
    refine⟨c1++pre,ch,post,by simp,by simp;omega,e3,?_,by simp [cU,e5]⟩
    simp only [cA]
    exact⟨c1,pre++(dh++post),by simp,h2,h3,e4⟩
end
theorem LV.ahs {x:LV} (h:x.isAgg=false):x.aw=1:=by cases x<;>simp_all [LV.isAgg,LV.aw]
mutual
theorem aC.one:∀ (lv:LV) (cs:List Value),aC Z μ w lv cs->∀ u∈cs,u.oneCell'=true
 | .any,_,h=>by simpa [aC] using h
 | .v x,cs,h=>by simp only [aC] at h;obtain⟨rfl,h⟩:=h;simpa using h
 | .list sz l,cs,h=>by simp only [aC] at h;obtain⟨a,len,cap,rfl,_⟩:=h;simp [Value.oneCell']
 | .agg l,cs,h=>by simp only [aC] at h;exact cA.one l cs h
 | .ref b sz off len,cs,h=>by simp only [aC] at h;rcases h with⟨rfl,_⟩ | ⟨id,cap,c,T,fz,rfl,_⟩<;>simp [Value.oneCell']
 | .ka b sz off len cap,cs,h=>by simp only [aC] at h;obtain⟨id,c,T,fz,rfl,_⟩:=h;simp [Value.oneCell']
 | .aB b sz i o,cs,h=>by simp only [aC] at h;obtain⟨id,rfl,_⟩:=h;simp [Value.oneCell']
 | .cm c,cs,h=>by simp only [aC] at h;obtain⟨blk,off,cc,T,fz,part,rest,rfl,_⟩:=h;simp [Value.oneCell']
 | .dk f cap,cs,h=>by simp only [aC] at h;obtain⟨vs,rfl,_⟩:=h;simp [Value.oneCell']
 | .bf _,_,h=>by simp [aC] at h
theorem cA.one:∀ (l:List LV) (cs:List Value),cA Z μ w l cs->∀ u∈cs,u.oneCell'=true
 | [],cs,h=>by simp only [cA] at h;simp [h]
 | x :: xs,cs,h=>by
   simp only [cA] at h
   obtain⟨c1,c2,rfl,h2,h3,h4⟩:=h
   intro u hu
   rcases List.mem_append.1 hu with hu | hu
   ·exact aC.one x c1 h3 u hu
   ·exact cA.one xs c2 h4 u hu
end
theorem aC.len {lv:LV} {cs:List Value} (h:aC Z μ w lv cs) (aX:lv≠.any):cs.length=lv.aw:=by
 cases lv with
 | any=>exact absurd rfl aX
 | agg l=>simp only [aC] at h;exact cA.length l cs h
 | v x=>simp only [aC] at h;simp [h.1,LV.aw]
 | list sz l=>simp only [aC] at h;obtain⟨a,len,cap,rfl,_⟩:=h;rfl
 | ref b sz off len=>simp only [aC] at h;rcases h with⟨rfl,_⟩ | ⟨id,cap,c,T,fz,rfl,_⟩<;>rfl
 | ka b sz off len cap=>simp only [aC] at h;obtain⟨id,c,T,fz,rfl,_⟩:=h;rfl
 | aB b sz i o=>simp only [aC] at h;obtain⟨id,rfl,_⟩:=h;rfl
 | cm c=>simp only [aC] at h;obtain⟨blk,off,cc,T,fz,part,rest,rfl,_⟩:=h;rfl
 | dk f cap=>simp only [aC] at h;obtain⟨vs,rfl,_⟩:=h;rfl
 | bf l=>simp [aC] at h
theorem fM.cells {lv:LV} {v:Value} (h:fM Z μ w lv v) (aX:lv≠.any):aC Z μ w lv v.cells.toList/\v.cells.size=lv.aw /\
  (∀ u∈v.cells.toList,u.oneCell'=true)/\((lv.isAgg=true/\v=.agg v.cells)\/(lv.isAgg=false/\v.cells=#[v]/\v.oneCell'=true)):=by
 cases ha:lv.isAgg with
 | true =>
  obtain⟨cs,rfl,h2⟩:=h.1 ha
  refine⟨h2,?_,aC.one _ _ h2,.inl ⟨rfl,rfl⟩⟩
  have:=aC.len h2 aX
  simpa [Value.cells] using this
 | false =>
  have h2:=h.2 ha
  have h3:=aC.one _ _ h2 v aT
  have hc:v.cells=#[v]:=by cases v<;>simp_all [Value.cells,Value.oneCell']
  rw [hc]
  exact⟨h2,by simp [LV.ahs ha],by simpa using h3,.inr ⟨rfl,rfl,h3⟩⟩
theorem fM.aoV {lv:LV} {cs:List Value} (h:aC Z μ w lv cs) (aX:lv≠.any):fM Z μ w lv (if lv.isAgg then .agg cs.toArray else cs.headD default):=by
 refine⟨fun e=>⟨cs.toArray,by simp [e],h⟩,fun e=>?_⟩
 have hl:=aC.len h aX
 rw [LV.ahs e] at hl
 match cs,hl with
 | [x],_=>simpa [e] using h
end
end Go.Lg
namespace Go.Lg
structure bh where
 sz:Nat
 vals:List LV
 mt:Bool
abbrev bW:=Nat->Option bh
structure XS where
 x:Nat->Prop
 y:Nat->Prop
def XS.any (X:XS) (id:Nat):Prop:=X.x id\/X.y id
instance:CoeFun XS (fun _=>Nat->Prop):=⟨XS.any⟩
def XS.no:XS:=⟨fun _=>False,fun _=>False⟩
def XS.one (i0:Nat):XS:=⟨fun k=>k=i0,fun _=>False⟩
theorem XS.aeF {id:Nat}:¬ XS.no.any id:=fun h=>h.elim (fun e=>e) (fun e=>e)
theorem XS.axM {i0 id:Nat} (h:(XS.one i0).any id):id=i0:=h.elim (fun e=>e) False.elim
structure Kept (X:XS) (W w:World):Prop where
 os:w.os=W.os
 tape:w.tape=W.tape
 output:w.output=W.output
 size:W.heap.size<=w.heap.size
 block:∀ k,k<W.heap.size->¬ X k->w.heap[k]?=W.heap[k]?
 vx:∀ k,X k->∀ c T fz,W.heap[k]?=some (.cells c T fz)->∃ c',w.heap[k]?=some (.cells c' T fz)/\c'.size=c.size
theorem Kept.refl (X:XS) (W:World):Kept X W W:=⟨rfl,rfl,rfl,bp _,fun _ _ _=>rfl,fun _ _ c _ _ h=>⟨c,h,rfl⟩⟩
theorem Kept.below {W w:World} (h:Kept XS.no W w):RowKit.Below W.heap.size W w :=
 ⟨h.os,h.tape,h.output,h.size,fun k hk=>h.block k hk XS.aeF⟩
def uy (Z:Nat->Prop) (μ:Nat->Option Nat) (w:World) (blk:bh) (id:Nat):Prop :=
 ∃ c T part rest,w.heap[id]?=some (.cells c T (0,0))/\c.toList=part++rest/\aR Z μ w blk.sz blk.vals part
structure Core (W:World) (X:XS) (Z0:Nat->Prop) (μ:Nat->Option Nat) (Z:Nat->Prop) (H:bW) (w:World):Prop where
 cC:Kept X W w
 lI:∀ id,Z id->id<w.heap.size
 jG:∀ id,Z0 id->Z id
 lK:∀ id,Z id->Z0 id\/W.heap.size<=id\/X.y id
 inj:∀ b b' id,μ b=some id->μ b'=some id->b=b'
 own:∀ b id,μ b=some id->W.heap.size<=id\/X id
 x0:∀ b id,μ b=some id->X.x id->b=0
 ov:∀ id,X id->id<W.heap.size
 x1:∀ id,X.x id->μ 0=some id
 jx:∀ b id blk,μ b=some id->H b=some blk->blk.mt=true->¬ Z id
 b9:∀ b id blk,μ b=some id->H b=some blk->blk.mt=false->Z id
 heap:∀ b id,μ b=some id->∃ blk,H b=some blk/\uy Z μ w blk id
def bC (P:Program) (T:TypeId) (n:Nat) (ag:Bool):Prop :=
 (P.info? T).map (·.size)=some n/\∃ d,P.underlying T=some d/\d.isRow=ag
def rq (P:Program):Nat->List Field->List (Nat × Bool)->Prop
 | _,[],[]=>True
 | off,f :: fs,(n,ag) :: r=>f.offset=off/\bC P f.type n ag/\rq P (off+n) fs r
 | _,_,_=>False
def lS (P:Program) (T:TypeId) (lay:List (Nat × Bool)):Prop :=
 ∃ fields,P.underlying T=some (.struct fields)/\rq P 0 fields.toList lay/\∀ n∈lay,0<n.1
def lay (x:LV):Nat × Bool:=(x.aw,x.isAgg)
section
variable {P:Program} {Z:Nat->Prop} {μ:Nat->Option Nat} {w:World}
theorem adm {blk off:Nat} {c:Array Value} {T:TypeId} {fz:Nat × Nat} {part rest:List Value}
  (h:w.heap[blk]?=some (.cells c T fz)) (hd:c.toList.drop off=part++rest):w.rangeAt blk off part:=by
 intro j v hj
 rw [cell_of_row w blk (off+j) c T fz h]
 have h1:(c.toList.drop off)[j]?=some v:=by
  rw [hd,aaz (oC.1 hj).1];exact hj
 rw [sA] at h1
 simpa using h1
theorem ar5 {T:TypeId} {y:LV} {blk off:Nat} {c:Array Value} {U:TypeId} {fz:Nat × Nat} {part rest:List Value}
  (ht:bC P T y.aw y.isAgg) (h:w.heap[blk]?=some (.cells c U fz)) (hd:c.toList.drop off=part++rest)
  (hy:aC Z μ w y part) (aX:y≠.any) :
  ∃ v,(Instr.loadAt T (.pointer (some ⟨blk,off,none⟩))).run P w=.ok v w/\fM Z μ w y v:=by
 have hr:=adm h hd
 have hl:=aC.len hy aX
 obtain⟨hi,d,hu,gX⟩:=ht
 refine⟨_,?_,fM.aoV hy aX⟩
 cases ha:y.isAgg with
 | true =>
  have:=run_loadAt_mid (P:=P) w blk off T part d hr hu (by rw [gX,ha]) (by rw [hi,hl])
  simpa using this
 | false =>
  rw [LV.ahs ha] at hl
  match part,hl,hr with
  | [x],_,hr =>
   have hx:=hr 0 x rfl
   have hag:(isAgg T).run P w=.ok false w:=by
    unfold isAgg
    rw [Sem.run_bind,run_underlying hu w]
    rw [ha] at gX
    cases d<;>simp_all [TypeDesc.isRow]
   simp [Instr.loadAt,Instr.sureAddr,loadVar,Sem.run_bind,hag,mf] at hx ⊢
   simp [hx]
theorem ax6:∀ (fs:List Field) (ls:List LV) (off k:Nat) (f:Field) (x:LV),rq P off fs (ls.map lay)->fs[k]?=some f->ls[k]?=some x ->
  f.offset=off+cU (ls.take k)/\bC P f.type x.aw x.isAgg
 | [],_,_,_,_,_,_,h,_=>by simp at h
 | _ :: _,[],_,_,_,_,_,_,h=>by simp at h
 | f :: fs,y :: ys,off,0,g,x,h,h1,h2=>by
   simp only [nv,lay,rq] at h
   simp only [qo,fp] at h1 h2
   subst h1 h2
   exact⟨by simp [cU,h.1],h.2.1⟩
 | f :: fs,y :: ys,off,k+1,g,x,h,h1,h2=>by
   simp only [nv,lay,rq] at h
   have:=ax6 fs ys (off+y.aw) k g x h.2.2 (by simpa using h1) (by simpa using h2)
   refine⟨?_,this.2⟩
   rw [this.1];simp [cU];omega
theorem amv:∀ (fs:List Field) (ls:List (Nat × Bool)) (off:Nat),rq P off fs ls->fs.length=ls.length
 | [],[],_,_=>rfl
 | [],_ :: _,_,h=>by simp [rq] at h
 | _ :: _,[],_,h=>by simp [rq] at h
 | f :: fs,(n,ag) :: r,off,h=>by
   simp only [rq] at h
   simp [amv fs r _ h.2.2]
theorem aIr {T:TypeId} {n:Nat} {ag:Bool} (ht:bC P T n ag):(isAgg T).run P w=.ok ag w:=by
 obtain⟨hi,d,hd,rfl⟩:=ht
 unfold isAgg
 rw [Sem.run_bind,run_underlying hd w]
 cases d<;>simp [TypeDesc.isRow]
theorem run_sizeOf {T:TypeId} {n:Nat} {ag:Bool} (ht:bC P T n ag):(sizeOf T).run P w=.ok n w:=by
 obtain⟨hi,_⟩:=ht
 cases hq:P.info? T with
 | none=>simp [hq] at hi
 | some i =>
  simp only [hq,pY,fp] at hi
  subst hi
  simp [sizeOf,typeInfo,hq]
theorem auo {T:TypeId} {x:LV} (ht:bC P T x.aw x.isAgg) {cs:Array Value} {pre ch post:List Value} (e1:cs.toList=pre++(ch++post))
  (h:aC Z μ w x ch) (aX:x≠.any):∃ u,(part T cs pre.length).run P w=.ok u w/\fM Z μ w x u:=by
 have e3:=aC.len h aX
 have hcs:cs=(pre++(ch++post)).toArray:=by apply u9;simp [e1]
 refine⟨_,?_,fM.aoV h aX⟩
 unfold part
 rw [Sem.run_bind,aIr ht]
 cases ha:x.isAgg with
 | true =>
  simp only [Result.andThen_ok,if_true,Sem.run_bind,run_sizeOf ht,Sem.run_pure]
  congr 2
  apply u9
  rw [hcs,<-e3]
  simp
 | false =>
  rw [LV.ahs ha] at e3
  match ch,e3 with
  | [y],_ =>
   have:cs[pre.length]?=some y:=by rw [hcs];simp
   simp [this]
theorem aAl {T:TypeId} {fs:List LV} {k:Nat} {x:LV} {v:Value} (ht:lS P T (fs.map lay)) (hx:fs[k]?=some x) (aX:x≠.any)
  (h:fM Z μ w (.agg fs) v):∃ u,(Instr.field T v k).run P w=.ok u w/\fM Z μ w x u:=by
 obtain⟨fields,hu,hl,_⟩:=ht
 obtain⟨cs,rfl,hc⟩:=h.1 rfl
 simp only [aC] at hc
 obtain⟨pre,ch,post,e1,e2,e3,e4,_⟩:=cA.get fs cs.toList k x hc hx
 have hk:k<fields.toList.length:=by
  rw [amv _ _ _ hl,fo];exact(oC.1 hx).1
 obtain⟨f,hfk⟩:∃ f,fields.toList[k]?=some f:=⟨_,cq hk⟩
 obtain⟨g1,hty⟩:=ax6 fields.toList fs 0 k f x hl hfk hx
 have amU:fields[k]?=some f:=by rw [<-ab3];exact hfk
 obtain⟨u,vq,hu3⟩:=auo (T:=f.type) hty e1 e4 aX
 refine⟨u,?_,hu3⟩
 have:f.offset=pre.length:=by omega
 simp only [Instr.field,Sem.run_bind,run_underlying hu,Result.andThen_ok,amU,asAgg,Sem.run_pure,this,vq]
def nO:List (Nat × Bool)->Nat
 | []=>0
 | x :: xs=>x.1+nO xs
theorem ahY:∀ (fs:List LV) (k:Nat),nO ((fs.map lay).take k)=cU (fs.take k)
 | [],k=>by simp [nO,cU]
 | x :: xs,0=>by simp [nO,cU]
 | x :: xs,k+1=>by simp [nO,cU,lay,<-ahY xs k]
theorem ap8:∀ (fs:List Field) (ls:List (Nat × Bool)) (off k:Nat) (f:Field) (x:Nat × Bool),rq P off fs ls->fs[k]?=some f->ls[k]?=some x ->
  f.offset=off+nO (ls.take k)/\bC P f.type x.1 x.2
 | [],_,_,_,_,_,_,h,_=>by simp at h
 | _ :: _,[],_,_,_,_,_,_,h=>by simp at h
 | f :: fs,(n,ag) :: ys,off,0,g,x,h,h1,h2=>by
   simp only [rq] at h
   simp only [qo,fp] at h1 h2
   subst h1 h2
   exact⟨by simp [nO,h.1],h.2.1⟩
 | f :: fs,(n,ag) :: ys,off,k+1,g,x,h,h1,h2=>by
   simp only [rq] at h
   have:=ap8 fs ys (off+n) k g x h.2.2 (by simpa using h1) (by simpa using h2)
   refine⟨?_,this.2⟩
   rw [this.1];simp [nO];omega
theorem auD {T:TypeId} {ls:List (Nat × Bool)} {k:Nat} (ht:lS P T ls) (mH:k<ls.length) (b o:Nat) :
  (Instr.fieldAt T (.pointer (some ⟨b,o,none⟩)) k).run P w=.ok (.pointer (some ⟨b,o+nO (ls.take k),none⟩)) w:=by
 obtain⟨fields,hu,hl,my⟩:=ht
 have hk:k<fields.toList.length:=by rw [amv _ _ _ hl];exact mH
 obtain⟨f,hfk⟩:∃ f,fields.toList[k]?=some f:=⟨_,cq hk⟩
 have hx:ls[k]?=some ls[k]:=cq mH
 obtain⟨g1,hty⟩:=ap8 fields.toList ls 0 k f _ hl hfk hx
 have amU:fields[k]?=some f:=by rw [<-ab3];exact hfk
 have hp:0<ls[k].1:=my _ (sb hx)
 have aX:¬ ls[k].1=0:=by omega
 simp only [Instr.fieldAt,Sem.run_bind,run_underlying hu,Result.andThen_ok,amU,Instr.sureAddr,Sem.run_pure,fieldPlace,run_sizeOf hty,Sem.run_ite,if_neg aX,g1,fw,Addr.add_mid]
end
end Go.Lg
namespace Go.Lg
def dL (op:BinOp) (k:IntKind) (a b:Int):Option Value :=
 match op with
 | .add=>some (.int k (k.wrap (a+b)))
 | .sub=>some (.int k (k.wrap (a-b)))
 | .mul=>some (.int k (k.wrap (a*b)))
 | .quo=>if b=0 then none else some (.int k (k.wrap (a.tdiv b)))
 | .rem=>if b=0 then none else some (.int k (a.tmod b))
 | .and=>some (.int k (k.wrap (tI k.bits a &&& tI k.bits b).toNat))
 | .or=>some (.int k (k.wrap (tI k.bits a ||| tI k.bits b).toNat))
 | .eql=>some (.bool (a==b))
 | .neq=>some (.bool (a != b))
 | .lss=>some (.bool (a<b))
 | .leq=>some (.bool (a<=b))
 | .gtr=>some (.bool (a > b))
 | .geq=>some (.bool (a>=b))
 | _=>none
def pC (op:BinOp) (k:IntKind) (a b:Int):Option Value :=
 if b<0 then none else
 match op with
 | .shl=>some (.int k (k.wrap (a*2 ^ min b.toNat k.bits)))
 | .shr=>some (.int k (a.fdiv (2 ^ min b.toNat k.bits)))
 | _=>none
def dj (P:Program) (T:TypeId) (z:LV):Prop :=
 ∃ i zv,P.info? T=some i/\i.zero=some zv/\z.pure=true/\∀ (Z:Nat->Prop) (μ:Nat->Option Nat) (w:World),aC Z μ w z zv.cells.toList
def jR (zs:List LV) (ps:List (Nat × LV)):List LV:=ps.foldl (fun acc p=>acc.set p.1 p.2) zs
inductive aE (P:Program) (H:bW) (ρ:Operand->LV):Op->LV->Prop
 | move (x):aE P H ρ (.move x) (ρ x)
 | assign (x):aE P H ρ (.assign x) (ρ x)
 | pick {c x y t} (h:ρ c=.v (.bool t)):aE P H ρ (.pick c x y) (if t then ρ x else ρ y)
 | bin {op T x y U k a b r} (hx:ρ x=.v (.int k a)) (hy:ρ y=.v (.int k b)) (h:dL op k a b=some r):aE P H ρ (.binOp op T x y U) (.v r)
 | sh {op T x y U k k' a b r} (hx:ρ x=.v (.int k a)) (hy:ρ y=.v (.int k' b)) (h:pC op k a b=some r):aE P H ρ (.binOp op T x y U) (.v r)
 | beq {T x y U a b} (hx:ρ x=.v (.bool a)) (hy:ρ y=.v (.bool b)) (hT:P.underlying T=some .bool):aE P H ρ (.binOp .eql T x y U) (.v (.bool (a==b)))
 | bne {T x y U a b} (hx:ρ x=.v (.bool a)) (hy:ρ y=.v (.bool b)) (hT:P.underlying T=some .bool):aE P H ρ (.binOp .neq T x y U) (.v (.bool (!(a==b))))
 | not {T x a} (hx:ρ x=.v (.bool a)):aE P H ρ (.unOp .not T x) (.v (.bool !a))
 | neg {T x k a} (hx:ρ x=.v (.int k a)):aE P H ρ (.unOp .neg T x) (.v (.int k (k.wrap (0-a))))
 | conv {S D x k k' n d} (hS:P.underlying S=some d) (hD:P.underlying D=some (.int k)) (hx:ρ x=.v (.int k' n)):aE P H ρ (.convert S D x) (.v (.int k (k.wrap n)))
 | extract {t i l r} (ht:ρ t=.bf l) (hr:l[i]?=some r) (aX:∀ m,r≠.bf m):aE P H ρ (.extract t i) r
 | field {T x k fs r} (hx:ρ x=.agg fs) (hT:lS P T (fs.map lay)) (hr:fs[k]?=some r) (aX:r.pure=true):aE P H ρ (.field T x k) r
 | zD {T p k fs r} (hp:ρ p=.cm (.agg fs)) (hT:lS P T (fs.map lay)) (hr:fs[k]?=some r):aE P H ρ (.fieldAddr T p k) (.cm r)
 | aa9 {T p k b sz i o ls} (hp:ρ p=.aB b sz i o) (hT:lS P T ls) (hk:k<ls.length):aE P H ρ (.fieldAddr T p k) (.aB b sz i (o+nO (ls.take k)))
 | zH {T p c} (hp:ρ p=.cm c) (hT:bC P T c.aw c.isAgg) (hc:c.pure=true):aE P H ρ (.load T p) c
 | fU {T p b sz i o blk x r n ag} (hp:ρ p=.aB b sz i o) (hb:H b=some blk) (hs:blk.sz=sz) (hi:blk.vals[i]?=some x) (hx:x.aw=sz) (hr:x.at o n ag=some r)
   (hT:bC P T n ag):aE P H ρ (.load T p) r
 | afd {x b sz i o} (hx:ρ x=.aB b sz i o):aE P H ρ (.nilCheck x) (.aB b sz i o)
 | aaK {T E x i n fs k m r sz ag} (hx:ρ x=.agg fs) (hT:P.underlying T=some (.array n E)) (hE:bC P E sz ag) (hf:fs.map lay=ay n (sz,ag)) (hi:ρ i=.v (.int k m)) (h0:0<=m)
   (hr:fs[m.toNat]?=some r) (hp:r.pure=true):aE P H ρ (.index T x i) r
 | abt {T E x j n b sz i o k m es ag} (hx:ρ x=.aB b sz i o) (hT:P.underlying T=some (.array n E)) (hE:bC P E es ag) (hi:ρ j=.v (.int k m)) (h0:0<=m) (hm:m<n) :
   aE P H ρ (.indexAddr T x j) (.aB b sz i (o+m.toNat*es))
 | abe {T E x i n fs k m r sz ag} (hx:ρ x=.cm (.agg fs)) (hT:P.underlying T=some (.array n E)) (hE:bC P E sz ag) (hf:fs.map lay=ay n (sz,ag)) (hi:ρ i=.v (.int k m)) (h0:0<=m)
   (hr:fs[m.toNat]?=some r):aE P H ρ (.indexAddr T x i) (.cm r)
 | aaJ {T E zs ps n sz ag} (hT:P.underlying T=some (.array n E)) (hE:bC P E sz ag) (hf:∀ z∈zs,lay z=(sz,ag)) (hz:dj P T (.agg zs))
   (hp:∀ p∈ps.toList,∃ z,zs[p.1]?=some z/\lay (ρ p.2)=lay z/\ρ p.2≠.any/\∀ m,ρ p.2≠.bf m) :
   aE P H ρ (.build T ps) (.agg (jR zs (ps.toList.map fun p=>(p.1,ρ p.2))))
 | aeJ {x c} (hx:ρ x=.cm c):aE P H ρ (.nilCheck x) (.cm c)
 | nx {T E x i sz l k n r ag} (hx:ρ x=.list sz l) (hT:P.underlying T=some (.slice E)) (hE:bC P E sz ag) (hi:ρ i=.v (.int k n)) (h0:0<=n)
   (hr:l[n.toNat]?=some r) (hc:r.aw=sz):aE P H ρ (.indexAddr T x i) (.cm r)
 | wD {T E x i b sz off len k n ag} (hx:ρ x=.ref b sz off len) (hT:P.underlying T=some (.slice E)) (hE:bC P E sz ag) (hi:ρ i=.v (.int k n)) (h0:0<=n)
   (hn:n<len):aE P H ρ (.indexAddr T x i) (.aB b sz (off+n.toNat) 0)
 | adH {T E x sz ag l a h la ha} (hx:ρ x=.list sz l) (hT:P.underlying T=some (.slice E)) (hE:bC P E sz ag) (cd:∀ y,la=some y->∃ k,ρ y=.v (.int k (a:Nat)))
   (qH:la=none->a=0) (iC:∀ y,ha=some y->∃ k,ρ y=.v (.int k (h:Nat))) (uv:ha=none->h=l.length) (h1:a<=h) (h2:h<=l.length) :
   aE P H ρ (.slice T x la ha none) (.list sz ((l.take h).drop a))
 | wk {T E x b sz off len ag a h la ha} (hx:ρ x=.ref b sz off len) (hT:P.underlying T=some (.slice E)) (hE:bC P E sz ag) (cd:∀ y,la=some y->∃ k,ρ y=.v (.int k (a:Nat)))
   (qH:la=none->a=0) (iC:∀ y,ha=some y->∃ k,ρ y=.v (.int k (h:Nat))) (uv:ha=none->h=len) (h1:a<=h) (h2:h<=len) (my:a<len) :
   aE P H ρ (.slice T x la ha none) (.ref b sz (off+a) (h-a))
 | afI {T E x b sz off len ag a h mx la z zm k k'} (hx:ρ x=.ref b sz off len) (hT:P.underlying T=some (.slice E)) (hE:bC P E sz ag) (cd:∀ y,la=some y->∃ k,ρ y=.v (.int k (a:Nat)))
   (qH:la=none->a=0) (iC:ρ z=.v (.int k (h:Nat))) (hmx:ρ zm=.v (.int k' (mx:Nat))) (h1:a<=h) (h2:h<=mx) (h3:mx<=len) (my:a<mx) :
   aE P H ρ (.slice T x la (some z) (some zm)) (.ref b sz (off+a) (h-a))
 | z5 {T x sz l d as} (hx:ρ x=.list sz l) (has:as=#[T]) (hT:P.underlying T=some (.slice d)):aE P H ρ (.call ⟨.builtin .len,#[x],as⟩) (.v (.int .i64 (l.length:Nat)))
 | aaT {T x b sz off len d as} (hx:ρ x=.ref b sz off len) (has:as=#[T]) (hT:P.underlying T=some (.slice d)):aE P H ρ (.call ⟨.builtin .len,#[x],as⟩) (.v (.int .i64 (len:Nat)))
 | aaB {T x d as} (hx:ρ x=.v (.slice none 0 0)) (has:as=#[T]) (hT:P.underlying T=some (.slice d)):aE P H ρ (.call ⟨.builtin .len,#[x],as⟩) (.v (.int .i64 (0:Nat)))
 | alD {T x d as} (hx:ρ x=.v (.slice none 0 0)) (has:as=#[T]) (hT:P.underlying T=some (.slice d)):aE P H ρ (.call ⟨.builtin .cap,#[x],as⟩) (.v (.int .i64 (0:Nat)))
 | ajD {T E x ha k sz ag} (hx:ρ x=.v (.slice none 0 0)) (hT:P.underlying T=some (.slice E)) (hE:bC P E sz ag) (hh:ρ ha=.v (.int k (0:Nat))):aE P H ρ (.slice T x none (some ha) none) (.v (.slice none 0 0))
 | aa0 {T x b sz off len cp d as} (hx:ρ x=.ka b sz off len cp) (has:as=#[T]) (hT:P.underlying T=some (.slice d)):aE P H ρ (.call ⟨.builtin .len,#[x],as⟩) (.v (.int .i64 (len:Nat)))
 | aeb {T x b sz off len cp d as} (hx:ρ x=.ka b sz off len cp) (has:as=#[T]) (hT:P.underlying T=some (.slice d)):aE P H ρ (.call ⟨.builtin .cap,#[x],as⟩) (.v (.int .i64 (cp:Nat)))
 | adV {T E x b sz off len cp ag a h la ha} (hx:ρ x=.ka b sz off len cp) (hT:P.underlying T=some (.slice E)) (hE:bC P E sz ag) (cd:∀ y,la=some y->∃ k,ρ y=.v (.int k (a:Nat)))
   (qH:la=none->a=0) (iC:∀ y,ha=some y->∃ k,ρ y=.v (.int k (h:Nat))) (uv:ha=none->h=len) (h1:a<=h) (h2:h<=cp) (my:a<cp) :
   aE P H ρ (.slice T x la ha none) (.ka b sz (off+a) (h-a) (cp-a))
 | min2 {x y k a b as} (hx:ρ x=.v (.int k a)) (hy:ρ y=.v (.int k b)):aE P H ρ (.call ⟨.builtin .min,#[x,y],as⟩) (.v (.int k (if b<a then b else a)))
 | max2 {x y k a b as} (hx:ρ x=.v (.int k a)) (hy:ρ y=.v (.int k b)):aE P H ρ (.call ⟨.builtin .max,#[x,y],as⟩) (.v (.int k (if b > a then b else a)))
 | ahE {T x i s k n b} (hx:ρ x=.v (.string s)) (hT:P.underlying T=some .string) (hi:ρ i=.v (.int k n)) (h0:0<=n) (hb:s[n.toNat]?=some b):aE P H ρ (.index T x i) (.v (.int .u8 b.toNat))
 | aa3 {f xs as fn e} {vs:List Value} {r1 r2} (hf:P.funcs[f]?=some fn) (qG:(fn.name== "runtime.NumGoroutine")=false) (hb:fn.body.isNone=true) (hn:Extern.findNext fn=none) (he:Extern.find fn=some e)
   (hx:xs.toList.map ρ=vs.map LV.v) (hr:∀ w:World,(e vs.toArray).run P w=.ok (.tuple #[r1,r2]) w) (h1:r1.oneCell'=true) (h2:r2.oneCell'=true) :
   aE P H ρ (.call ⟨.value (.func f),xs,as⟩) (.bf [.v r1,.v r2])
 | zu {T x y U s t} (hx:ρ x=.v (.string s)) (hy:ρ y=.v (.string t)) (h:s.size+t.size<=9223372036854775807):aE P H ρ (.binOp .add T x y U) (.v (.string (s++t)))
 | eqS {T x y U s t} (hx:ρ x=.v (.string s)) (hy:ρ y=.v (.string t)):aE P H ρ (.binOp .eql T x y U) (.v (.bool (s.toList==t.toList)))
 | eqN {T x y U d} (hx:ρ x=.v (.slice none 0 0)) (hy:ρ y=.v (.slice none 0 0)) (hT:P.underlying T=some (.slice d)):aE P H ρ (.binOp .eql T x y U) (.v (.bool true))
 | zk {T x y U E a0 a1 a2 a3 b0 b1 b2 b3} (hx:ρ x=.agg [.v (.bool a0),.v (.bool a1),.v (.bool a2),.v (.bool a3)]) (hy:ρ y=.agg [.v (.bool b0),.v (.bool b1),.v (.bool b2),.v (.bool b3)]) (hT:P.underlying T=some (.array 4 E))
   (hE:P.underlying E=some .bool) (hs:bC P E 1 false) (hd:2<=P.depth):aE P H ρ (.binOp .eql T x y U) (.v (.bool (a0==b0 && (a1==b1 && (a2==b2 && a3==b3)))))
 | aae {T x y U sz v l d} (hx:ρ x=.list sz (v :: l)) (hy:ρ y=.v (.slice none 0 0)) (hT:P.underlying T=some (.slice d)):aE P H ρ (.binOp .eql T x y U) (.v (.bool false))
 | amA {S D E x b off len blk} {ns:List Nat} (hS:P.underlying S=some (.slice E)) (hE:P.underlying E=some (.int .u8)) (hD:P.underlying D=some .string) (hx:ρ x=.ref b 1 off len) (hb:H b=some blk) (hs:blk.sz=1)
   (hv:(blk.vals.drop off).take len=ns.map (fun n=>LV.v (.int .u8 (n:Nat)))) (hl:off+len<=blk.vals.length) :
   aE P H ρ (.convert S D x) (.v (.string ((ns.map aiF).foldl (fun r n=>r.push (UInt8.ofNat n.toNat)) ByteArray.empty)))
 | build {T zs ps} (hT:lS P T (zs.map lay)) (hz:dj P T (.agg zs)) (hp:∀ p∈ps.toList,∃ z,zs[p.1]?=some z/\lay (ρ p.2)=lay z/\ρ p.2≠.any/\∀ m,ρ p.2≠.bf m) :
   aE P H ρ (.build T ps) (.agg (jR zs (ps.toList.map fun p=>(p.1,ρ p.2))))
section
variable {P:Program} {Z:Nat->Prop} {μ:Nat->Option Nat} {w:World}
theorem bj.int {k:IntKind} {n:Int}:bj Z μ w (.v (.int k n)) (.int k n):=⟨by simp [LV.isAgg],fun _=>by simp [aC,Value.oneCell']⟩
theorem bj.bool {b:Bool}:bj Z μ w (.v (.bool b)) (.bool b):=⟨by simp [LV.isAgg],fun _=>by simp [aC,Value.oneCell']⟩
theorem bj.eu {x v:Value} (h:bj Z μ w (.v x) v):v=x:=by
 have:=h.2 rfl
 simp only [aC] at this
 simpa using this.1
theorem bj.v {x:Value} (h:x.oneCell'=true):bj Z μ w (.v x) x:=⟨by simp [LV.isAgg],fun _=>by simp [aC,h]⟩
theorem aHt {op:BinOp} {k:IntKind} {a b:Int} {r:Value} (h:dL op k a b=some r):r.oneCell'=true:=by
 cases op<;>simp [dL] at h<;>first | (subst h;rfl) | (obtain⟨_,rfl⟩:=h;rfl)
theorem azb {op:BinOp} {k:IntKind} {a b:Int} {r:Value} (h:pC op k a b=some r):r.oneCell'=true:=by
 unfold pC at h
 split at h
 ·simp at h
 ·cases op<;>simp at h<;>(subst h;rfl)
theorem aFa {op:BinOp} {T:TypeId} {x y:Operand} {k:IntKind} {a b:Int} {r:Value} (h:dL op k a b=some r) :
  (do eqGuard op T x y (.int k a) (.int k b);binOp op T (.int k a) (.int k b):Sem Value).run P w=.ok r w:=by
 cases op<;>simp [dL] at h<;>simp [eqGuard,binOp,Op.intArith,Op.intDiv,Op.intBits,Op.intCmp] <;>
  first
   | (subst h;rfl)
   | (obtain⟨h1,rfl⟩:=h;simp [h1])
   | skip
theorem aAb {op:BinOp} {T:TypeId} {x y:Operand} {k k':IntKind} {a b:Int} {r:Value} (h:pC op k a b=some r) :
  (do eqGuard op T x y (.int k a) (.int k' b);binOp op T (.int k a) (.int k' b):Sem Value).run P w=.ok r w:=by
 unfold pC at h
 split at h
 ·simp at h
 ·rename_i hb
  cases op<;>simp at h<;>subst h<;>simp [eqGuard,binOp,Op.shift,hb]
theorem atg (off:Nat):∀ (vs:List Value) (i:Nat) (cells:Array Value),off+i+vs.length<=cells.size ->
  ((vs.zipIdx i).foldl (fun cs p=>cs.setIfInBounds (off+p.2) p.1) cells).toList=cells.toList.take (off+i)++(vs++cells.toList.drop (off+i+vs.length))
 | [],i,cells,h=>by simp
 | v :: vs,i,cells,h=>by
   simp only [qJ] at h
   simp only [List.zipIdx_cons,List.foldl_cons]
   rw [atg off vs (i+1) _ (by rw [Array.size_setIfInBounds];omega)]
   have e:off+(i+1)=(off+i)+1:=by omega
   rw [e,Array.toList_setIfInBounds,List.take_succ_eq_append_getElem bw,List.getElem_set_self,List.take_set_of_le ae,List.drop_set_of_lt ae]
   have e2:off+i+1+vs.length=off+i+(vs.length+1):=by omega
   rw [e2]
   simp
theorem ait {ls:List (Nat × Bool)} (place:Nat->Option (Nat × Nat)) (gv:∀ k n,ls[k]?=some n->place k=some (nO (ls.take k),n.1)) :
  ∀ (ps:List (Nat × Value)) (qs:List (Nat × LV)) (zs:List LV) (cells:Array Value),zs.map lay=ls->cA Z μ w zs cells.toList ->
   ps.map (·.1)=qs.map (·.1)->(∀ (j:Nat) (p:Nat × Value) (q:Nat × LV),ps[j]?=some p->qs[j]?=some q->fM Z μ w q.2 p.2/\q.2≠LV.any) ->
   (∀ q∈qs,∃ n,ls[q.1]?=some n/\lay q.2=n) ->
   ∃ cs,Instr.fill place cells ps=some cs/\cA Z μ w (jR zs qs) cs.toList
 | [],[],zs,cells,_,hr,_,_,_=>⟨cells,rfl,hr⟩
 | [],_ :: _,_,_,_,_,h,_,_=>by simp at h
 | _ :: _,[],_,_,_,_,h,_,_=>by simp at h
 | (k,v) :: ps,(k',x) :: qs,zs,cells,hz,hr,hk,hv,hq=>by
   simp only [nv,fJ] at hk
   obtain⟨rfl,hk⟩:=hk
   obtain⟨n,hn,hxn⟩:=hq (k,x) aT
   obtain⟨hxv,hxa⟩:=hv 0 (k,v) (k,x) rfl rfl
   obtain⟨c1,c2,c3,_⟩:=hxv.cells hxa
   have hn':=hn
   simp only at hn hxn
   rw [<-hz,iV] at hn
   obtain⟨z,hzk,hzn⟩:∃ z,zs[k]?=some z/\lay z=n:=by
    cases h:zs[k]? with
    | none=>simp [h] at hn
    | some z=>exact⟨z,rfl,by simpa [h] using hn⟩
   obtain⟨pre,ch,post,e1,e2,e3,e4,e5⟩:=cA.get zs cells.toList k z hr hzk
   have bJ:v.cells.size=n.1:=by rw [c2,<-hxn];rfl
   have aKO:ch.length=n.1:=by rw [e3,<-hzn];rfl
   have sO:nO (ls.take k)=pre.length:=by rw [<-hz,ahY,e2]
   have hcs:cells.size=pre.length+(ch.length+post.length):=by
    rw [<-nC,e1];simp
   simp only [Instr.fill,gv k n hn',sO]
   have aEq:¬ ((decide (v.cells.size≠n.1) || decide (pre.length+v.cells.size > cells.size))=true):=by
    simp only [Bool.or_eq_true,decide_eq_true_eq,not_or,aDI]
    omega
   rw [if_neg aEq]
   have hf:=atg pre.length v.cells.toList 0 cells bw
   have mc:(v.cells.zipIdx.foldl (fun cs p=>cs.setIfInBounds (pre.length+p.2) p.1) cells).toList=pre++(v.cells.toList++post):=by
    rw [<-Array.foldl_toList,Array.toList_zipIdx]
    rw [hf,e1]
    simp only [mf,nC,List.take_left]
    rw [axD,jQ ae,afw]
    congr 2
    rw [axD,jQ ae,afw]
    have:pre.length+v.cells.size-pre.length-ch.length=0:=by omega
    rw [this];rfl
   have sQ:=e5 x v.cells.toList c1 (by simp [c2])
   rw [<-mc] at sQ
   refine ait place gv ps qs (zs.set k x) _ ?_ sQ hk (fun j p q hp hq=>hv (j+1) p q (by simpa using hp) (by simpa using hq)) (fun q h=>hq q (by simp [h]))
   rw [List.map_set,hz,hxn]
   refine List.ext_getElem? fun j=>?_
   by_cases hj:k=j
   ·subst hj;rw [List.getElem?_set_self (oC.1 hn').1,hn']
   ·rw [List.getElem?_set_ne hj]
end
end Go.Lg
namespace Go.Lg
section
variable {P:Program} {Z:Nat->Prop} {μ:Nat->Option Nat} {w:World} {H:bW} {ρ:Operand->LV} {a:Act}
theorem fY.get:∀ (l:List LV) (vs:List Value) (i:Nat) (x:LV),fY Z μ w l vs->l[i]?=some x->∃ v,vs[i]?=some v/\fM Z μ w x v
 | [],_,_,_,_,h=>by simp at h
 | y :: ys,_,0,x,⟨v,jT,e,h1,h2⟩,hi=>by
   simp only [qo,fp] at hi
   subst hi e
   exact⟨v,by simp,h1⟩
 | y :: ys,_,i+1,x,⟨v,jT,e,h1,h2⟩,hi=>by
   subst e
   have:=fY.get ys jT i x h2 (by simpa using hi)
   simpa using this
theorem anc {sz:Nat} {l:List LV} {i:Nat} {r:LV} {off:Nat} {c:Array Value} {part rest:List Value}
  (hd:c.toList.drop off=part++rest) (hr:aR Z μ w sz l part) (hi:l[i]?=some r) :
  ∃ ch post,c.toList.drop (off+i*sz)=ch++post/\ch.length=sz/\aC Z μ w r ch:=by
 obtain⟨pre,ch,post,e1,e2,e3,e4,_⟩:=aR.get l part i r hr hi
 refine⟨ch,post++rest,?_,e3,e4⟩
 rw [<-qy,hd,e1,<-e2]
 simp
theorem run_indexAt_slice {T E:TypeId} {sz:Nat} {ag:Bool} (hT:P.underlying T=some (.slice E)) (hE:bC P E sz ag) (k:IntKind) (n:Int) (len cap b off:Nat) (h0:0<=n) (h1:n<len) :
  (Instr.indexAt T (.slice (some ⟨b,off,none⟩) len cap) (.int k n)).run P w=.ok (.pointer (some ⟨b,off+n.toNat*sz,none⟩)) w:=by
 have h2:(0<=n/\n<(len:Int)):=⟨h0,h1⟩
 simp [Instr.indexAt,asIntOf,run_underlying hT,run_sizeOf hE,h2,Addr.add_mid]
theorem run_equal_bool {T:TypeId} (hT:P.underlying T=some .bool) (i j:Bool):(Op.equal T (.bool i) (.bool j)).run P w=.ok (i==j) w:=by
 have h:∀ d,(Op.equalIn (d+1) T (.bool i) (.bool j)).run P w=.ok (i==j) w:=fun d=>by
  simp only [Op.equalIn,Sem.run_bind,run_underlying hT,Result.andThen_ok,Sem.run_pure]
 exact h 9999
theorem aEk {T:TypeId} (hT:P.underlying T=some .bool) {x y:Operand} (i j:Bool) :
  (do eqGuard .eql T x y (.bool i) (.bool j);binOp .eql T (.bool i) (.bool j):Sem Value).run P w=.ok (.bool (i==j)) w:=by
 have h1:(eqGuard .eql T x y (.bool i) (.bool j)).run P w=.ok () w:=by simp [eqGuard]
 have h2:(binOp .eql T (.bool i) (.bool j)).run P w=.ok (.bool (i==j)) w:=by
  simp only [binOp]
  rw [Sem.run_bind,run_equal_bool hT];rfl
 rw [Sem.run_bind,h1];exact h2
theorem aCT {T:TypeId} (hT:P.underlying T=some .bool) {x y:Operand} (i j:Bool) :
  (do eqGuard .neq T x y (.bool i) (.bool j);binOp .neq T (.bool i) (.bool j):Sem Value).run P w=.ok (.bool (!(i==j))) w:=by
 have h1:(eqGuard .neq T x y (.bool i) (.bool j)).run P w=.ok () w:=by simp [eqGuard]
 have h2:(binOp .neq T (.bool i) (.bool j)).run P w=.ok (.bool (!(i==j))) w:=by
  simp only [binOp]
  rw [Sem.run_bind,run_equal_bool hT];rfl
 rw [Sem.run_bind,h1];exact h2
theorem aBs {T d:TypeId} (hT:P.underlying T=some (.slice d)) (a:Option Addr) (n c:Nat):(Op.equal T (.slice a n c) (.slice none 0 0)).run P w=.ok (a.isNone) w:=by
 have h:∀ k,(Op.equalIn (k+1) T (.slice a n c) (.slice none 0 0)).run P w=.ok (a.isNone) w:=fun k=>by
  cases a<;>simp only [Op.equalIn,Sem.run_bind,run_underlying hT,Result.andThen_ok,Sem.run_pure]<;>rfl
 exact h 9999
theorem asR {T d:TypeId} (hT:P.underlying T=some (.slice d)) {x y:Operand} (a:Option Addr) (n c:Nat) :
  (do eqGuard .eql T x y (.slice a n c) (.slice none 0 0);binOp .eql T (.slice a n c) (.slice none 0 0):Sem Value).run P w=.ok (.bool a.isNone) w:=by
 have h1:(eqGuard .eql T x y (.slice a n c) (.slice none 0 0)).run P w=.ok () w:=by simp [eqGuard]
 have h2:(binOp .eql T (.slice a n c) (.slice none 0 0)).run P w=.ok (.bool a.isNone) w:=by
  simp only [binOp]
  rw [Sem.run_bind,aBs hT];rfl
 rw [Sem.run_bind,h1];exact h2
theorem aCs {E:TypeId} {d:TypeDesc} (h1:P.underlying E=some d) (h2:d.isRow=false) (cs:Array Value) (i:Nat) (v:Value) (h:cs[i]?=some v):(part E cs i).run P w=.ok v w:=by
 cases d<;>first | (exfalso;simp [TypeDesc.isRow] at h2;done) | (simp [part,isAgg,run_underlying h1,h])
theorem aCc {T E:TypeId} (d:Nat) (hT:P.underlying T=some (.array 4 E)) (hE:P.underlying E=some .bool) (hs:(sizeOf E).run P w=.ok 1 w) (a b:Fin 4->Bool) :
  (Op.equalIn (d+2) T (.agg #[.bool (a 0),.bool (a 1),.bool (a 2),.bool (a 3)]) (.agg #[.bool (b 0),.bool (b 1),.bool (b 2),.bool (b 3)])).run P w=.ok (a 0==b 0 && (a 1==b 1 && (a 2==b 2 && a 3==b 3))) w:=by
 have hb:∀ x y:Bool,(Op.equalIn (d+1) E (.bool x) (.bool y)).run P w=.ok (x==y) w:=fun x y=>by
  simp only [Op.equalIn,Sem.run_bind,run_underlying hE,Result.andThen_ok,Sem.run_pure]
 have hp:=fun(cs:Array Value) (i:Nat) (v:Value) (h:cs[i]?=some v)=>aCs (w:=w) hE (by rfl) cs i v h
 have sQ:∀ (i:Nat) (x y:Bool) (hx:(#[Value.bool (a 0),Value.bool (a 1),Value.bool (a 2),Value.bool (a 3)])[i]?=some (.bool x)) (hy:(#[Value.bool (b 0),Value.bool (b 1),Value.bool (b 2),Value.bool (b 3)])[i]?=some (.bool y)),
   (do
    let doA <-part E #[Value.bool (a 0),Value.bool (a 1),Value.bool (a 2),Value.bool (a 3)] i
    let doB <-part E #[Value.bool (b 0),Value.bool (b 1),Value.bool (b 2),Value.bool (b 3)] i
    let doA <-Op.equalIn (d+1) E doA doB
    if (!doA)=true then pure (ForInStep.done (some false,())) else pure (ForInStep.yield (none,())):Sem (ForInStep (Option Bool × Unit))).run P w=.ok (if x==y then ForInStep.yield (none,()) else ForInStep.done (some false,())) w:=fun i x y hx hy=>by
  rw [Sem.run_bind,hp _ _ _ hx]
  simp only [Result.andThen_ok]
  rw [Sem.run_bind,hp _ _ _ hy]
  simp only [Result.andThen_ok]
  rw [Sem.run_bind,hb]
  simp only [Result.andThen_ok]
  cases x==y<;>simp
 rw [Op.equalIn,Sem.run_bind,run_underlying hT]
 simp only [Result.andThen_ok]
 rw [Sem.run_bind,hs]
 simp only [Result.andThen_ok]
 rw [Sem.run_bind]
 simp only [Std.Legacy.Range.forIn_eq_forIn_range',Std.Legacy.Range.size,Nat.sub_zero,Nat.div_one,List.range',List.forIn_cons,List.forIn_nil,aeY,Nat.mul_one,fw]
 rw [Sem.run_bind,sQ 0 (a 0) (b 0) rfl rfl]
 cases a 0==b 0
 ·simp
 simp only [Result.andThen_ok,if_true,aku]
 rw [Sem.run_bind,sQ 1 (a 1) (b 1) rfl rfl]
 cases a 1==b 1
 ·simp
 simp only [Result.andThen_ok,if_true,aku]
 rw [Sem.run_bind,sQ 2 (a 2) (b 2) rfl rfl]
 cases a 2==b 2
 ·simp
 simp only [Result.andThen_ok,if_true,aku]
 rw [Sem.run_bind,sQ 3 (a 3) (b 3) rfl rfl]
 cases a 3==b 3
 ·simp
 simp
theorem azZ {T E:TypeId} (hT:P.underlying T=some (.array 4 E)) (hE:P.underlying E=some .bool) (hs:bC P E 1 false) (hd:2<=P.depth) {x y:Operand} (a b:Fin 4->Bool) :
  (do eqGuard .eql T x y (.agg #[.bool (a 0),.bool (a 1),.bool (a 2),.bool (a 3)]) (.agg #[.bool (b 0),.bool (b 1),.bool (b 2),.bool (b 3)]);binOp .eql T (.agg #[.bool (a 0),.bool (a 1),.bool (a 2),.bool (a 3)]) (.agg #[.bool (b 0),.bool (b 1),.bool (b 2),.bool (b 3)]):Sem Value).run P w=.ok (.bool (a 0==b 0 && (a 1==b 1 && (a 2==b 2 && a 3==b 3)))) w:=by
 obtain⟨n,hn⟩:∃ n,P.depth=n+2:=⟨P.depth-2,ae⟩
 have hg:P.eqGuardType P.depth T=false:=by rw [hn];simp [Program.eqGuardType,hT,hE]
 have h1:(eqGuard .eql T x y (.agg #[.bool (a 0),.bool (a 1),.bool (a 2),.bool (a 3)]) (.agg #[.bool (b 0),.bool (b 1),.bool (b 2),.bool (b 3)])).run P w=.ok () w:=by simp [eqGuard,hg]
 have h2:(binOp .eql T (.agg #[.bool (a 0),.bool (a 1),.bool (a 2),.bool (a 3)]) (.agg #[.bool (b 0),.bool (b 1),.bool (b 2),.bool (b 3)])).run P w=.ok (.bool (a 0==b 0 && (a 1==b 1 && (a 2==b 2 && a 3==b 3)))) w:=by
  simp only [binOp]
  have e:=aCc 9998 hT hE (run_sizeOf (w:=w) hs) a b
  simp only [aeY] at e
  rw [Sem.run_bind,Op.equal,Op.maxDepth,e];rfl
 rw [Sem.run_bind,h1];exact h2
theorem avl {Z:Nat->Prop} {μ:Nat->Option Nat} {a0 a1 a2 a3:Bool} {v:Value} (h:bj Z μ w (.agg [.v (.bool a0),.v (.bool a1),.v (.bool a2),.v (.bool a3)]) v):v=.agg #[.bool a0,.bool a1,.bool a2,.bool a3]:=by
 obtain⟨cs,rfl,hr⟩:=h.1 rfl
 simp only [aC,cA] at hr
 obtain⟨c1,d1,e1,_,⟨r1,_⟩,c2,d2,e2,_,⟨r2,_⟩,c3,d3,e3,_,⟨r3,_⟩,c4,d4,e4,_,⟨r4,_⟩,r5⟩:=hr
 subst r1 r2 r3 r4 r5 e4 e3 e2
 congr 1
 exact u9 e1
theorem aCB {T E:TypeId} (hT:P.underlying T=some (.array 4 E)) (hE:P.underlying E=some .bool) (hs:bC P E 1 false) (hd:2<=P.depth) {x y:Operand} (a0 a1 a2 a3 b0 b1 b2 b3:Bool) :
  (do eqGuard .eql T x y (.agg #[.bool a0,.bool a1,.bool a2,.bool a3]) (.agg #[.bool b0,.bool b1,.bool b2,.bool b3]);binOp .eql T (.agg #[.bool a0,.bool a1,.bool a2,.bool a3]) (.agg #[.bool b0,.bool b1,.bool b2,.bool b3]):Sem Value).run P w=.ok (.bool (a0==b0 && (a1==b1 && (a2==b2 && a3==b3)))) w :=
 azZ hT hE hs hd (fun i=>[a0,a1,a2,a3][i]) (fun i=>[b0,b1,b2,b3][i])
theorem ajf (isS:Bool) (len cap:Nat) (la ha:Option Value) (a h:Nat) (cd:∀ y,la=some y->∃ k,y=.int k (a:Nat)) (qH:la=none->a=0)
  (iC:∀ y,ha=some y->∃ k,y=.int k (h:Nat)) (uv:ha=none->h=len) (h1:a<=h) (h2:h<=cap) :
  (Instr.sliceBounds isS len cap la ha none).run P w=.ok (a,h,cap) w:=by
 have e1:∀ (k:IntKind) (c:BoundsCode),(Instr.sliceBound (.int k (h:Nat)) cap c).run P w=.ok h w:=fun k c=>by
  have:=run_sliceBound (P:=P) w k (h:Int) cap c ae ae
  simpa using this
 have e2:∀ (k:IntKind) (c:BoundsCode),(Instr.sliceBound (.int k (a:Nat)) h c).run P w=.ok a w:=fun k c=>by
  have:=run_sliceBound (P:=P) w k (a:Int) h c ae ae
  simpa using this
 cases la with
 | none =>
  have:=qH rfl
  subst this
  cases ha with
  | none=>have:=uv rfl;subst this;simp [Instr.sliceBounds]
  | some y=>obtain⟨k,rfl⟩:=iC y rfl;simp [Instr.sliceBounds,e1]
 | some x =>
  obtain⟨k',rfl⟩:=cd x rfl
  cases ha with
  | none=>have:=uv rfl;subst this;simp [Instr.sliceBounds,e2]
  | some y=>obtain⟨k,rfl⟩:=iC y rfl;simp [Instr.sliceBounds,e1,e2]
theorem aDF (len cap:Nat) (la:Option Value) (a h m:Nat) (k k':IntKind) (cd:∀ y,la=some y->∃ k,y=.int k (a:Nat)) (qH:la=none->a=0) (h1:a<=h) (h2:h<=m) (h3:m<=cap) :
  (Instr.sliceBounds true len cap la (some (.int k (h:Nat))) (some (.int k' (m:Nat)))).run P w=.ok (a,h,m) w:=by
 have e0:∀ (c:BoundsCode),(Instr.sliceBound (.int k' (m:Nat)) cap c).run P w=.ok m w:=fun c=>by
  have:=run_sliceBound (P:=P) w k' (m:Int) cap c ae ae
  simpa using this
 have e1:∀ (c:BoundsCode),(Instr.sliceBound (.int k (h:Nat)) m c).run P w=.ok h w:=fun c=>by
  have:=run_sliceBound (P:=P) w k (h:Int) m c ae ae
  simpa using this
 have e2:∀ (k:IntKind) (c:BoundsCode),(Instr.sliceBound (.int k (a:Nat)) h c).run P w=.ok a w:=fun k c=>by
  have:=run_sliceBound (P:=P) w k (a:Int) h c ae ae
  simpa using this
 cases la with
 | none =>
  have:=qH rfl
  subst this
  simp [Instr.sliceBounds,e0,e1]
 | some x =>
  obtain⟨k',rfl⟩:=cd x rfl
  simp [Instr.sliceBounds,e0,e1,e2]
theorem axm:∀ (fs:List Field) (ls:List (Nat × Bool)) (off:Nat),rq P off fs ls ->
  ∃ pl:List (Nat × Nat),(fs.mapM fun f=>do pure (f.offset,<-sizeOf f.type):Sem (List (Nat × Nat))).run P w=.ok pl w/\∀ k n,ls[k]?=some n->pl[k]?=some (off+nO (ls.take k),n.1)
 | [],[],_,_=>⟨[],rfl,fun k n h=>by simp at h⟩
 | [],_ :: _,_,h=>by simp [rq] at h
 | _ :: _,[],_,h=>by simp [rq] at h
 | f :: fs,(n,ag) :: r,off,h=>by
   simp only [rq] at h
   obtain⟨h1,h2,h3⟩:=h
   obtain⟨pl,e1,e2⟩:=axm fs r (off+n) h3
   refine⟨(off,n) :: pl,?_,?_⟩
   ·simp only [List.mapM_cons,Sem.run_bind,run_sizeOf h2,Result.andThen_ok,Sem.run_pure,e1,h1]
   ·intro k m hk
    cases k with
    | zero=>simp at hk;subst hk;simp [nO]
    | succ k =>
     have:=e2 k m (by simpa using hk)
     simp only [List.getElem?_cons_succ,this,xy,nO]
     congr 2;omega
theorem ahM {n sz:Nat} {ag:Bool}:∀ (fs:List LV) (k:Nat),(∀ z∈fs,lay z=(sz,ag))->k<=fs.length->cU (fs.take k)=k*sz
 | _,0,_,_=>by simp [cU]
 | [],k+1,_,h=>by simp at h
 | x :: xs,k+1,h,hk=>by
  have h1:x.aw=sz:=by have:=h x aT;simp only [lay,afT] at this;exact this.1
  rw [xy,cU,h1,ahM (n:=n) xs k (fun z hz=>h z (by simp [hz])) (by simpa using hk),Nat.succ_mul,Nat.add_comm]
theorem axT {fs:List LV} {n sz:Nat} {ag:Bool} (h:fs.map lay=ay n (sz,ag)):fs.length=n/\∀ z∈fs,lay z=(sz,ag):=by
 refine⟨by have:=congrArg apt h;simpa using this,fun z hz=>?_⟩
 have:lay z∈fs.map lay:=List.mem_map_of_mem hz
 rw [h] at this
 exact(List.mem_replicate.1 this).2
theorem run_indexAt_array {T E:TypeId} {n sz:Nat} {ag:Bool} (hT:P.underlying T=some (.array n E)) (hE:bC P E sz ag) (k:IntKind) (m:Int) (b off:Nat) (h0:0<=m) (h1:m<n) :
  (Instr.indexAt T (.pointer (some ⟨b,off,none⟩)) (.int k m)).run P w=.ok (.pointer (some ⟨b,off+m.toNat*sz,none⟩)) w:=by
 have h2:(0<=m/\m<(n:Int)):=⟨h0,h1⟩
 simp [Instr.indexAt,Instr.sureAddr,asIntOf,run_underlying hT,run_sizeOf hE,h2,Addr.add_mid]
theorem azO {T E:TypeId} {n sz:Nat} {ag:Bool} {fs:List LV} {x:LV} {v:Value} {k:IntKind} {m:Int} (hT:P.underlying T=some (.array n E)) (hE:bC P E sz ag) (hf:fs.map lay=ay n (sz,ag)) (h0:0<=m)
  (hx:fs[m.toNat]?=some x) (aX:x≠.any) (h:fM Z μ w (.agg fs) v):∃ u,(Instr.index T v (.int k m)).run P w=.ok u w/\fM Z μ w x u:=by
 obtain⟨hl,hly⟩:=axT hf
 obtain⟨cs,rfl,hc⟩:=h.1 rfl
 simp only [aC] at hc
 obtain⟨pre,ch,post,e1,e2,e3,e4,_⟩:=cA.get fs cs.toList m.toNat x hc hx
 have hk:=(oC.1 hx).1
 have hxl:=hly x (sb hx)
 simp only [lay,afT] at hxl
 obtain⟨u,vq,hu3⟩:=auo (T:=E) (by rw [hxl.1,hxl.2];exact hE) e1 e4 aX
 refine⟨u,?_,hu3⟩
 have sO:m.toNat*sz=pre.length:=by rw [e2,ahM (n:=n) fs m.toNat hly ae]
 have h2:(0<=m/\m<(n:Int)):=⟨h0,ae⟩
 simp only [Instr.index,asIntOf,Sem.run_bind,Sem.run_pure,Result.andThen_ok,run_underlying hT,if_pos h2,run_sizeOf hE,sO]
 simpa using vq
theorem azQ {T E:TypeId} {zs:List LV} {ps:Array (Nat × Operand)} {n sz:Nat} {ag:Bool} (hT:P.underlying T=some (.array n E)) (hE:bC P E sz ag) (hf:∀ z∈zs,lay z=(sz,ag)) (hz:dj P T (.agg zs))
  (hp:∀ p∈ps.toList,∃ z,zs[p.1]?=some z/\lay (ρ p.2)=lay z/\ρ p.2≠.any/\∀ m,ρ p.2≠.bf m) (cu:∀ p∈ps.toList,bj Z μ w (ρ p.2) (a.eval p.2)) :
  ∃ v,(Instr.build T (ps.map fun(i,x)=>(i,a.eval x))).run P w=.ok v w/\bj Z μ w (.agg (jR zs (ps.toList.map fun p=>(p.1,ρ p.2)))) v:=by
 obtain⟨i,zv,z1,z2,_,z3⟩:=hz
 have wE:=z3 Z μ w
 simp only [aC] at wE
 obtain⟨cs,f1,f2⟩:=ait (Z:=Z) (μ:=μ) (w:=w) (ls:=zs.map lay) (fun k=>some (k*sz,sz)) (fun k n hk=>by
   rw [iV,zN] at hk
   obtain⟨z,hz,rfl⟩:=hk
   have hk:=(oC.1 hz).1
   have ox:=hf z (sb hz)
   rw [ox,ahY,ahM (n:=0) zs k hf ae])
  (ps.toList.map fun p=>(p.1,a.eval p.2)) (ps.toList.map fun p=>(p.1,ρ p.2)) zs zv.cells rfl wE aT
  (fun j p q ke ri=>by
   simp only [iV,zN] at ke ri
   obtain⟨x,hx,rfl⟩:=ke
   obtain⟨y,hy,rfl⟩:=ri
   rw [hx] at hy;cases hy
   have hm:=sb hx
   obtain⟨z,_,_,h3,h4⟩:=hp x hm
   exact⟨bj.yU h4 h3 (cu x hm),h3⟩)
  (fun q hq=>by
   simp only [da] at hq
   obtain⟨x,hx,rfl⟩:=hq
   obtain⟨z,h1,h2,_⟩:=hp x hx
   exact⟨lay z,by simp [iV,h1],h2⟩)
 refine⟨.agg cs,?_,⟨fun _=>⟨cs,rfl,by simpa [aC] using f2⟩,by simp [LV.isAgg]⟩⟩
 have zL:(zeroValue T).run P w=.ok zv w:=by simp [zeroValue,typeInfo,z1,z2]
 simp only [Instr.build,Sem.run_bind,zL,Result.andThen_ok,run_underlying hT,run_sizeOf hE]
 have:(aff (fun x=>match x with | (i,x)=>(i,a.eval x)) ps).toList=ps.toList.map fun p=>(p.1,a.eval p.2):=by simp
 rw [this,f1];rfl
theorem aFX {T:TypeId} {zs:List LV} {ps:Array (Nat × Operand)} (hT:lS P T (zs.map lay)) (hz:dj P T (.agg zs))
  (hp:∀ p∈ps.toList,∃ z,zs[p.1]?=some z/\lay (ρ p.2)=lay z/\ρ p.2≠.any/\∀ m,ρ p.2≠.bf m) (cu:∀ p∈ps.toList,bj Z μ w (ρ p.2) (a.eval p.2)) :
  ∃ v,(Instr.build T (ps.map fun(i,x)=>(i,a.eval x))).run P w=.ok v w/\bj Z μ w (.agg (jR zs (ps.toList.map fun p=>(p.1,ρ p.2)))) v:=by
 obtain⟨i,zv,z1,z2,_,z3⟩:=hz
 obtain⟨fields,hu,hl,my⟩:=hT
 have wE:=z3 Z μ w
 simp only [aC] at wE
 obtain⟨pl,e1,e2⟩:=axm (P:=P) (w:=w) fields.toList _ 0 hl
 obtain⟨cs,f1,f2⟩:=ait (Z:=Z) (μ:=μ) (w:=w) (ls:=zs.map lay) (fun k=>pl.toArray[k]?) (fun k n hk=>by simpa using e2 k n hk)
  (ps.toList.map fun p=>(p.1,a.eval p.2)) (ps.toList.map fun p=>(p.1,ρ p.2)) zs zv.cells rfl wE aT
  (fun j p q ke ri=>by
   simp only [iV,zN] at ke ri
   obtain⟨x,hx,rfl⟩:=ke
   obtain⟨y,hy,rfl⟩:=ri
   rw [hx] at hy;cases hy
   have hm:=sb hx
   obtain⟨z,_,_,h3,h4⟩:=hp x hm
   exact⟨bj.yU h4 h3 (cu x hm),h3⟩)
  (fun q hq=>by
   simp only [da] at hq
   obtain⟨x,hx,rfl⟩:=hq
   obtain⟨z,h1,h2,_⟩:=hp x hx
   exact⟨lay z,by simp [iV,h1],h2⟩)
 refine⟨.agg cs,?_,⟨fun _=>⟨cs,rfl,by simpa [aC] using f2⟩,by simp [LV.isAgg]⟩⟩
 have gv:(fields.mapM fun f=>do pure (f.offset,<-sizeOf f.type):Sem (Array (Nat × Nat))).run P w=.ok pl.toArray w:=by
  rw [Array.mapM_eq_mapM_toList,Sem.run_map,e1];rfl
 have zL:(zeroValue T).run P w=.ok zv w:=by simp [zeroValue,typeInfo,z1,z2]
 simp only [Instr.build,Sem.run_bind,zL,Result.andThen_ok,run_underlying hu,gv]
 have:(aff (fun x=>match x with | (i,x)=>(i,a.eval x)) ps).toList=ps.toList.map fun p=>(p.1,a.eval p.2):=by simp
 rw [this,f1];rfl
set_option maxHeartbeats 2000000 in
theorem aE.sound {op:Op} {r:LV} (ho:aE P H ρ op r) (cu:∀ x∈op.operands,bj Z μ w (ρ x) (a.eval x))
  (hh:∀ b id,μ b=some id->∃ blk,H b=some blk/\uy Z μ w blk id) (dst:Option Tmp) (ty:TypeId) (pos:String) (after:Array Edge) (g:Option (Nat × Bool)) :
  ∃ v,(execOp a.eval ⟨dst,op,ty,pos,after,g⟩).run P w=.ok (.value v) w/\bj Z μ w r v:=by
 cases ho with
 | move x=>exact⟨a.eval x,rfl,cu x bS⟩
 | assign x=>exact⟨a.eval x,rfl,cu x bS⟩
 | @pick c x y t h =>
  have hc:=cu c bS;rw [h] at hc
  have hc:=hc.eu
  refine⟨if t then a.eval x else a.eval y,by cases t<;>simp [execOp,hc,asBool],?_⟩
  cases t
  ·simpa using cu y bS
  ·simpa using cu x bS
 | @bin op T x y U k i j r hx hy h =>
  have e1:=cu x bS;rw [hx] at e1;have e1:=e1.eu
  have e2:=cu y bS;rw [hy] at e2;have e2:=e2.eu
  refine⟨r,?_,bj.v (aHt h)⟩
  have:=aFa (P:=P) (w:=w) (T:=T) (x:=x) (y:=y) h
  simp only [execOp,e1,e2]
  rw [Sem.run_bind,this];rfl
 | @sh op T x y U k k' i j r hx hy h =>
  have e1:=cu x bS;rw [hx] at e1;have e1:=e1.eu
  have e2:=cu y bS;rw [hy] at e2;have e2:=e2.eu
  refine⟨r,?_,bj.v (azb h)⟩
  have:=aAb (P:=P) (w:=w) (T:=T) (x:=x) (y:=y) (k':=k') h
  simp only [execOp,e1,e2]
  rw [Sem.run_bind,this];rfl
 | @beq T x y U i j hx hy hT =>
  have e1:=cu x bS;rw [hx] at e1;have e1:=e1.eu
  have e2:=cu y bS;rw [hy] at e2;have e2:=e2.eu
  exact⟨.bool (i==j),by simp only [execOp,e1,e2];rw [Sem.run_bind,aEk hT];rfl,bj.bool⟩
 | @eqN T x y U d hx hy hT =>
  have e1:=cu x bS;rw [hx] at e1;have e1:=e1.eu
  have e2:=cu y bS;rw [hy] at e2;have e2:=e2.eu
  exact⟨.bool true,by simp only [execOp,e1,e2];rw [Sem.run_bind,asR hT];rfl,bj.bool⟩
 | @zk T x y U E a0 a1 a2 a3 b0 b1 b2 b3 hx hy hT hE hs hd =>
  have e1:=cu x bS;rw [hx] at e1;have e1:=avl e1
  have e2:=cu y bS;rw [hy] at e2;have e2:=avl e2
  exact⟨.bool _,by simp only [execOp,e1,e2];rw [Sem.run_bind,aCB hT hE hs hd];rfl,bj.bool⟩
 | @aae T x y U sz v l d hx hy hT =>
  have e1:=cu x bS;rw [hx] at e1
  have e2:=cu y bS;rw [hy] at e2;have e2:=e2.eu
  have e3:=e1.2 rfl
  simp only [aC] at e3
  obtain⟨ad,len,cap,q1,q2,q3,q4,_⟩:=e3
  simp only [fJ,and_true] at q1
  rcases q4 with q4 | ⟨blk,off,c,T',fz,part,rest,q5,_⟩
  ·cases q4
  ·subst q5
   exact⟨.bool false,by simp only [execOp,q1,e2];rw [Sem.run_bind,asR hT];rfl,bj.bool⟩
 | @bne T x y U i j hx hy hT =>
  have e1:=cu x bS;rw [hx] at e1;have e1:=e1.eu
  have e2:=cu y bS;rw [hy] at e2;have e2:=e2.eu
  exact⟨.bool (!(i==j)),by simp only [execOp,e1,e2];rw [Sem.run_bind,aCT hT];rfl,bj.bool⟩
 | @not T x i hx =>
  have e1:=cu x bS;rw [hx] at e1;have e1:=e1.eu
  exact⟨.bool (!i),by simp [execOp,e1,Op.unary],bj.bool⟩
 | @neg T x k i hx =>
  have e1:=cu x bS;rw [hx] at e1;have e1:=e1.eu
  exact⟨.int k (k.wrap (0-i)),by simp [execOp,e1,Op.unary,Op.intArith],bj.int⟩
 | @conv S D x k k' n d hS hD hx =>
  have e1:=cu x bS;rw [hx] at e1;have e1:=e1.eu
  exact⟨.int k (k.wrap n),by simp [execOp,e1,convert,run_underlying hS,run_underlying hD,Conv.intToInt],bj.int⟩
 | @extract t i l r ht hr aX =>
  have e1:=cu t bS;rw [ht] at e1
  obtain⟨vs,e2,e3⟩:=e1
  obtain⟨v,h1,h2⟩:=fY.get _ _ _ _ e3 hr
  refine⟨v,?_,bj.sN aX h2⟩
  have:vs[i]?=some v:=by rw [<-ab3];exact h1
  simp [execOp,e2,Instr.extract,this]
 | @field T x k fs r hx hT hr aX =>
  have e1:=cu x bS;rw [hx] at e1
  obtain⟨u,h1,h2⟩:=aAl (P:=P) (w:=w) hT hr (LV.fk aX) (bj.yU aT aT e1)
  exact⟨u,by simp [execOp,h1],bj.sN (LV.eP aX) h2⟩
 | @zD T p k fs r hp hT hr =>
  have e1:=cu p bS;rw [hp] at e1
  have e2:=e1.2 rfl
  simp only [aC] at e2
  obtain⟨blk,off,cc,U,fz,part,rest,h1,h2,h3,h4,h5,h6,h7⟩:=e2
  obtain⟨pre,ch,post,g1,g2,g3,g4,_⟩:=cA.get fs part k r h6 hr
  have hk:k<(fs.map lay).length:=by rw [fo];exact(oC.1 hr).1
  have hf:=auD (P:=P) (w:=w) hT hk blk off
  rw [ahY] at hf
  refine⟨.pointer (some ⟨blk,off+cU (fs.take k),none⟩),?_,⟨by simp [LV.isAgg],fun _=>?_⟩⟩
  ·simp only [fJ,and_true] at h1
   simp [execOp,h1,hf]
  ·simp only [aC]
   refine⟨blk,_,cc,U,fz,ch,post++rest,rfl,h2,h3,?_,g3,g4,(yV _).1 (by simpa [LV.pure] using h7) _ (sb hr)⟩
   rw [<-qy,h4,g1,<-g2]
   simp
 | @aa9 T p k b sz i o ls hp hT hk =>
  have e1:=cu p bS;rw [hp] at e1
  have e2:=e1.2 rfl
  simp only [aC] at e2
  obtain⟨id,h1,h2⟩:=e2
  simp only [fJ,and_true] at h1
  have hf:=auD (P:=P) (w:=w) hT hk id (i*sz+o)
  refine⟨.pointer (some ⟨id,i*sz+o+nO (ls.take k),none⟩),by simp [execOp,h1,hf],⟨by simp [LV.isAgg],fun _=>?_⟩⟩
  simp only [aC]
  exact⟨id,by rw [ph],h2⟩
 | @aaK T E x i n fs k m r sz ag hx hT hE hf hi h0 hr hp =>
  have e1:=cu x bS;rw [hx] at e1
  have e2:=cu i bS;rw [hi] at e2;have e2:=e2.eu
  obtain⟨u,h1,h2⟩:=azO (P:=P) (w:=w) (k:=k) hT hE hf h0 hr (LV.fk hp) (bj.yU aT aT e1)
  exact⟨u,by simp [execOp,e2,h1],bj.sN (LV.eP hp) h2⟩
 | @abt T E x j n b sz i o k m es ag hx hT hE hi h0 hm =>
  have e1:=cu x bS;rw [hx] at e1
  have e3:=cu j bS;rw [hi] at e3;have e3:=e3.eu
  have e2:=e1.2 rfl
  simp only [aC] at e2
  obtain⟨id,h1,h2⟩:=e2
  simp only [fJ,and_true] at h1
  have hf:=run_indexAt_array (P:=P) (w:=w) hT hE k m id (i*sz+o) h0 hm
  refine⟨.pointer (some ⟨id,i*sz+o+m.toNat*es,none⟩),by simp [execOp,h1,e3,hf],⟨by simp [LV.isAgg],fun _=>?_⟩⟩
  simp only [aC]
  exact⟨id,by rw [ph],h2⟩
 | @abe T E x i n fs k m r sz ag hx hT hE hf hi h0 hr =>
  have e1:=cu x bS;rw [hx] at e1
  have e3:=cu i bS;rw [hi] at e3;have e3:=e3.eu
  have e2:=e1.2 rfl
  simp only [aC] at e2
  obtain⟨blk,off,cc,U,fz,part,rest,h1,h2,h3,h4,h5,h6,h7⟩:=e2
  obtain⟨hl,hly⟩:=axT hf
  have hk:=(oC.1 hr).1
  obtain⟨pre,ch,post,g1,g2,g3,g4,_⟩:=cA.get fs part m.toNat r h6 hr
  have qV:=run_indexAt_array (P:=P) (w:=w) hT hE k m blk off h0 ae
  rw [<-ahM (n:=n) fs m.toNat hly ae] at qV
  refine⟨.pointer (some ⟨blk,off+cU (fs.take m.toNat),none⟩),?_,⟨by simp [LV.isAgg],fun _=>?_⟩⟩
  ·simp only [fJ,and_true] at h1
   simp [execOp,h1,e3,qV]
  ·simp only [aC]
   refine⟨blk,_,cc,U,fz,ch,post++rest,rfl,h2,h3,?_,g3,g4,(yV _).1 (by simpa [LV.pure] using h7) _ (sb hr)⟩
   rw [<-qy,h4,g1,<-g2]
   simp
 | @zH T p c hp hT hc =>
  have e1:=cu p bS;rw [hp] at e1
  have e2:=e1.2 rfl
  simp only [aC] at e2
  obtain⟨blk,off,cc,U,fz,part,rest,h1,h2,h3,h4,h5,h6,h7⟩:=e2
  simp only [fJ,and_true] at h1
  obtain⟨v,g1,g2⟩:=ar5 (P:=P) hT h3 h4 h6 (LV.fk hc)
  exact⟨v,by simp [execOp,h1,g1],bj.sN (LV.eP hc) g2⟩
 | @fU T p b sz i o blk x r n ag hp hb hs hi hx hr hT =>
  have e1:=cu p bS;rw [hp] at e1
  have e2:=e1.2 rfl
  simp only [aC] at e2
  obtain⟨id,h1,h2⟩:=e2
  simp only [fJ,and_true] at h1
  obtain⟨blk',pA,c,U,part,rest,q1,q2,q3⟩:=hh b id h2
  rw [hb] at pA;cases pA
  obtain⟨ch,post,k1,k2,k3⟩:=anc (off:=0) (by simpa using q2) q3 hi
  obtain⟨pre,vB,vS,j1,j2,j3,j4,j5,j6,j7,j8⟩:=LV.aj3 x o n ag r ch hr k3 (by rw [k2,hs,hx])
  have hd:c.toList.drop (i*sz+o)=vB++(vS++post):=by
   rw [fw,hs] at k1
   rw [<-qy,k1,j1,<-j2];simp
  obtain⟨v,g1,g2⟩:=ar5 (P:=P) (y:=r) (by rw [j5,j6];exact hT) q1 hd j4 j7
  exact⟨v,by simp [execOp,h1,g1],bj.sN j8 g2⟩
 | @afd x b sz i o hx =>
  have e1:=cu x bS;rw [hx] at e1
  have e2:=e1.2 rfl
  simp only [aC] at e2
  obtain⟨id,h1,h2⟩:=e2
  simp only [fJ,and_true] at h1
  exact⟨a.eval x,by simp [execOp,h1],e1⟩
 | @aeJ x c hx =>
  have e1:=cu x bS;rw [hx] at e1
  have e2:=e1.2 rfl
  simp only [aC] at e2
  obtain⟨blk,off,cc,U,fz,part,rest,h1,h2⟩:=e2
  simp only [fJ,and_true] at h1
  exact⟨a.eval x,by simp [execOp,h1],e1⟩
 | @nx T E x i sz l k n r ag hx hT hE hi h0 hr hc =>
  have e1:=cu x bS;rw [hx] at e1
  have e2:=cu i bS;rw [hi] at e2;have e2:=e2.eu
  have e3:=e1.2 rfl
  simp only [aC] at e3
  obtain⟨ad,len,cap,h1,h2,h3,h4,h9⟩:=e3
  simp only [fJ,and_true] at h1
  have bM:=(oC.1 hr).1
  rcases h4 with h4 | ⟨blk,off,c,U,fz,part,rest,g1,g2,g3,g4,g5⟩
  ·subst h4;simp at bM
  ·subst g1
   have hn:n<(len:Int):=by omega
   have:=run_indexAt_slice (P:=P) (w:=w) hT hE k n len cap blk off h0 hn
   obtain⟨ch,post,k1,k2,k3⟩:=anc g4 g5 hr
   refine⟨_,by simp only [execOp,h1,e2,Sem.run_bind,this];rfl,⟨by simp [LV.isAgg],fun _=>?_⟩⟩
   simp only [aC]
   exact⟨blk,_,c,U,fz,ch,post,rfl,g2,g3,k1,by rw [k2,hc],k3,(yV _).1 h9 _ (sb hr)⟩
 | @wD T E x i b sz off len k n ag hx hT hE hi h0 hn =>
  have e1:=cu x bS;rw [hx] at e1
  have e2:=cu i bS;rw [hi] at e2;have e2:=e2.eu
  have e3:=e1.2 rfl
  simp only [aC] at e3
  rcases e3 with⟨_,e3⟩ | ⟨id,cap,c,U,fz,h1,h2,h3,h4,h5⟩
  ·omega
  simp only [fJ,and_true] at h1
  have:=run_indexAt_slice (P:=P) (w:=w) hT hE k n len cap id (off*sz) h0 hn
  refine⟨_,by simp only [execOp,h1,e2,Sem.run_bind,this];rfl,⟨by simp [LV.isAgg],fun _=>?_⟩⟩
  simp only [aC]
  exact⟨id,by rw [hY];rfl,h2⟩
 | @adH T E x sz ag l lo hi la ha hx hT hE cd qH iC uv h1 h2 =>
  have e1:=cu x bS;rw [hx] at e1
  have e3:=e1.2 rfl
  simp only [aC] at e3
  obtain⟨ad,len,cap,q1,q2,q3,q4,q9⟩:=e3
  simp only [fJ,and_true] at q1
  have hb:=ajf (P:=P) (w:=w) true len cap (la.map a.eval) (ha.map a.eval) lo hi
   (fun y hy=>by
    cases la with
    | none=>simp at hy
    | some z =>
     simp only [pY,fp] at hy
     obtain⟨k,hk⟩:=cd z rfl
     have:=cu z bS;rw [hk] at this
     exact⟨k,by rw [<-hy];exact this.eu⟩)
   (fun h=>qH mW)
   (fun y hy=>by
    cases ha with
    | none=>simp at hy
    | some z =>
     simp only [pY,fp] at hy
     obtain⟨k,hk⟩:=iC z rfl
     have:=cu z bS;rw [hk] at this
     exact⟨k,by rw [<-hy];exact this.eu⟩)
   (fun h=>by rw [q2];exact uv mW) h1 ae
  have fg:(Instr.sliceAt T (.slice ad len cap) (la.map a.eval) (ha.map a.eval) none).run P w=.ok (.slice (if cap=lo then ad else ad.map (·.add (lo*sz))) (hi-lo) (cap-lo)) w:=by
   simp only [Instr.sliceAt,Sem.run_bind,run_underlying hT,Result.andThen_ok,Instr.slice,hb,run_sizeOf hE,Sem.run_pure]
  refine⟨_,by simp only [execOp,q1,aiO,Sem.run_bind,fg];rfl,⟨by simp [LV.isAgg],fun _=>?_⟩⟩
  simp only [aC]
  refine⟨_,_,_,rfl,by simp;omega,ae,?_,(yV _).2 fun x hx=>(yV _).1 q9 x (vM (vL hx))⟩
  by_cases bM:lo<hi
  ·right
   rcases q4 with q4 | ⟨blk,off,c,U,fz,part,rest,g1,g2,g3,g4,g5⟩
   ·subst q4;simp at h2;omega
   ·subst g1
    have jy:¬ cap=lo:=by omega
    obtain⟨c1,c2,d1,d2,d3⟩:=aR.split (l.take hi) (l.drop hi) part (by rw [vv];exact g5)
    obtain⟨c3,c4,d4,d5,d6⟩:=aR.split ((l.take hi).take lo) ((l.take hi).drop lo) c1 (by rw [vv];exact d2)
    have nj:=aR.length _ _ d5
    simp only [eG] at nj
    refine⟨blk,off+lo*sz,c,U,fz,c4,c2++rest,by simp [jy,Addr.add_mid],g2,g3,?_,d6⟩
    rw [<-qy,g4,d1,d4]
    have:lo*sz=c3.length:=by rw [nj];congr 1;omega
    rw [this];simp
  ·left
   have:lo=hi:=by omega
   subst this
   apply m8
   simp
 | @wk T E x b sz off len ag lo hi la ha hx hT hE cd qH iC uv h1 h2 my =>
  have e1:=cu x bS;rw [hx] at e1
  have e3:=e1.2 rfl
  simp only [aC] at e3
  rcases e3 with⟨_,e3⟩ | ⟨id,cap,c,U,fz,q1,q2,q3,q4,q5⟩
  ·omega
  simp only [fJ,and_true] at q1
  have hb:=ajf (P:=P) (w:=w) true len cap (la.map a.eval) (ha.map a.eval) lo hi
   (fun y hy=>by
    cases la with
    | none=>simp at hy
    | some z =>
     simp only [pY,fp] at hy
     obtain⟨k,hk⟩:=cd z rfl
     have:=cu z bS;rw [hk] at this
     exact⟨k,by rw [<-hy];exact this.eu⟩)
   (fun h=>qH mW)
   (fun y hy=>by
    cases ha with
    | none=>simp at hy
    | some z =>
     simp only [pY,fp] at hy
     obtain⟨k,hk⟩:=iC z rfl
     have:=cu z bS;rw [hk] at this
     exact⟨k,by rw [<-hy];exact this.eu⟩)
   (fun h=>uv mW) h1 ae
  have fg:(Instr.sliceAt T (.slice (some ⟨id,off*sz,none⟩) len cap) (la.map a.eval) (ha.map a.eval) none).run P w =
    .ok (.slice (if cap=lo then some ⟨id,off*sz,none⟩ else some ⟨id,off*sz+lo*sz,none⟩) (hi-lo) (cap-lo)) w:=by
   simp only [Instr.sliceAt,Sem.run_bind,run_underlying hT,Result.andThen_ok,Instr.slice,hb,run_sizeOf hE,Sem.run_pure,pY,Addr.add_mid]
  refine⟨_,by simp only [execOp,q1,aiO,Sem.run_bind,fg];rfl,⟨by simp [LV.isAgg],fun _=>?_⟩⟩
  simp only [aC]
  have jy:¬ cap=lo:=by omega
  refine .inr ⟨id,cap-lo,c,U,fz,by simp [jy,hY],q2,ae,q4,?_⟩
  have:off+lo+(cap-lo)=off+cap:=by omega
  rw [this];exact q5
 | @afI T E x b sz off len ag lo hi mx la z zm k k' hx hT hE cd qH iC hmx h1 h2 h3 my =>
  have e1:=cu x bS;rw [hx] at e1
  have e3:=e1.2 rfl
  simp only [aC] at e3
  rcases e3 with⟨_,e3⟩ | ⟨id,cap,c,U,fz,q1,q2,q3,q4,q5⟩
  ·omega
  simp only [fJ,and_true] at q1
  have g1:=cu z bS;rw [iC] at g1
  have g2:=cu zm bS;rw [hmx] at g2
  have hb:=aDF (P:=P) (w:=w) len cap (la.map a.eval) lo hi mx k k'
   (fun y hy=>by
    cases la with
    | none=>simp at hy
    | some z =>
     simp only [pY,fp] at hy
     obtain⟨k,hk⟩:=cd z rfl
     have:=cu z bS;rw [hk] at this
     exact⟨k,by rw [<-hy];exact this.eu⟩)
   (fun h=>qH mW) h1 h2 ae
  have fg:(Instr.sliceAt T (.slice (some ⟨id,off*sz,none⟩) len cap) (la.map a.eval) (some (a.eval z)) (some (a.eval zm))).run P w =
    .ok (.slice (if mx=lo then some ⟨id,off*sz,none⟩ else some ⟨id,off*sz+lo*sz,none⟩) (hi-lo) (mx-lo)) w:=by
   rw [g1.eu,g2.eu]
   simp only [Instr.sliceAt,Sem.run_bind,run_underlying hT,Result.andThen_ok,Instr.slice,hb,run_sizeOf hE,Sem.run_pure,pY,Addr.add_mid]
  refine⟨_,by simp only [execOp,q1,pY,Sem.run_bind,fg];rfl,⟨by simp [LV.isAgg],fun _=>?_⟩⟩
  simp only [aC]
  have jy:¬ mx=lo:=by omega
  refine .inr ⟨id,mx-lo,c,U,fz,by simp [jy,hY],q2,ae,q4,?_⟩
  have:off+lo+(mx-lo)=off+mx:=by omega
  rw [this]
  exact Nat.le_trans (Nat.mul_le_mul_right _ ae) q5
 | @z5 T x sz l d as hx has hT =>
  have e1:=cu x lC;rw [hx] at e1
  have e3:=e1.2 rfl
  simp only [aC] at e3
  obtain⟨ad,len,cap,q1,q2,_⟩:=e3
  simp only [fJ,and_true] at q1
  subst has
  exact⟨.int .i64 (l.length:Nat),by simp [execOp,resolve,invoke,builtin,q1,Builtin.len_,run_underlying hT,goInt,q2],bj.int⟩
 | @aaT T x b sz off len d as hx has hT =>
  have e1:=cu x lC;rw [hx] at e1
  have e3:=e1.2 rfl
  simp only [aC] at e3
  subst has
  rcases e3 with⟨q1,rfl⟩ | ⟨id,cap,c,U,fz,q1,_⟩
  ·simp only [fJ,and_true] at q1
   exact⟨.int .i64 (0:Nat),by simp [execOp,resolve,invoke,builtin,q1,Builtin.len_,run_underlying hT,goInt],bj.int⟩
  simp only [fJ,and_true] at q1
  exact⟨.int .i64 (len:Nat),by simp [execOp,resolve,invoke,builtin,q1,Builtin.len_,run_underlying hT,goInt],bj.int⟩
 | @aa0 T x b sz off len cp d as hx has hT =>
  have e1:=cu x lC;rw [hx] at e1
  have e3:=e1.2 rfl
  simp only [aC] at e3
  subst has
  obtain⟨id,c,U,fz,q1,_⟩:=e3
  simp only [fJ,and_true] at q1
  exact⟨.int .i64 (len:Nat),by simp [execOp,resolve,invoke,builtin,q1,Builtin.len_,run_underlying hT,goInt],bj.int⟩
 | @aeb T x b sz off len cp d as hx has hT =>
  have e1:=cu x lC;rw [hx] at e1
  have e3:=e1.2 rfl
  simp only [aC] at e3
  subst has
  obtain⟨id,c,U,fz,q1,_⟩:=e3
  simp only [fJ,and_true] at q1
  exact⟨.int .i64 (cp:Nat),by simp [execOp,resolve,invoke,builtin,q1,Builtin.cap_,run_underlying hT,goInt],bj.int⟩
 | @adV T E x b sz off len cp ag lo hi la ha hx hT hE cd qH iC uv h1 h2 my =>
  have e1:=cu x bS;rw [hx] at e1
  have e3:=e1.2 rfl
  simp only [aC] at e3
  obtain⟨id,c,U,fz,q1,q2,q3,q4,q5⟩:=e3
  simp only [fJ,and_true] at q1
  have hb:=ajf (P:=P) (w:=w) true len cp (la.map a.eval) (ha.map a.eval) lo hi
   (fun y hy=>by
    cases la with
    | none=>simp at hy
    | some z =>
     simp only [pY,fp] at hy
     obtain⟨k,hk⟩:=cd z rfl
     have:=cu z bS;rw [hk] at this
     exact⟨k,by rw [<-hy];exact this.eu⟩)
   (fun h=>qH mW)
   (fun y hy=>by
    cases ha with
    | none=>simp at hy
    | some z =>
     simp only [pY,fp] at hy
     obtain⟨k,hk⟩:=iC z rfl
     have:=cu z bS;rw [hk] at this
     exact⟨k,by rw [<-hy];exact this.eu⟩)
   (fun h=>uv mW) h1 h2
  have fg:(Instr.sliceAt T (.slice (some ⟨id,off*sz,none⟩) len cp) (la.map a.eval) (ha.map a.eval) none).run P w =
    .ok (.slice (if cp=lo then some ⟨id,off*sz,none⟩ else some ⟨id,off*sz+lo*sz,none⟩) (hi-lo) (cp-lo)) w:=by
   simp only [Instr.sliceAt,Sem.run_bind,run_underlying hT,Result.andThen_ok,Instr.slice,hb,run_sizeOf hE,Sem.run_pure,pY,Addr.add_mid]
  refine⟨_,by simp only [execOp,q1,aiO,Sem.run_bind,fg];rfl,⟨by simp [LV.isAgg],fun _=>?_⟩⟩
  simp only [aC]
  have jy:¬ cp=lo:=by omega
  refine⟨id,c,U,fz,by simp [jy,hY],q2,ae,q4,?_⟩
  have:off+lo+(cp-lo)=off+cp:=by omega
  rw [this];exact q5
 | @aaB T x d as hx has hT =>
  have e1:=cu x lC;rw [hx] at e1;have e1:=e1.eu
  subst has
  exact⟨.int .i64 (0:Nat),by simp [execOp,resolve,invoke,builtin,e1,Builtin.len_,run_underlying hT,goInt],bj.int⟩
 | @alD T x d as hx has hT =>
  have e1:=cu x lC;rw [hx] at e1;have e1:=e1.eu
  subst has
  exact⟨.int .i64 (0:Nat),by simp [execOp,resolve,invoke,builtin,e1,Builtin.cap_,run_underlying hT,goInt],bj.int⟩
 | @ajD T E x ha k sz ag hx hT hE hh =>
  have e1:=cu x bS;rw [hx] at e1;have e1:=e1.eu
  have e2:=cu ha bS;rw [hh] at e2;have e2:=e2.eu
  have hb:=ajf (P:=P) (w:=w) true 0 0 none (some (a.eval ha)) 0 0 (fun y hy=>by cases hy) (fun _=>rfl) (fun y hy=>by cases hy;exact⟨k,e2⟩) (fun h=>by cases h) (bp _) (bp _)
  have fg:(Instr.sliceAt T (.slice none 0 0) none (some (a.eval ha)) none).run P w=.ok (.slice none 0 0) w:=by
   simp only [Instr.sliceAt,Sem.run_bind,run_underlying hT,Result.andThen_ok,Instr.slice,hb,run_sizeOf hE,Sem.run_pure]
   rfl
  refine⟨_,by simp only [execOp,e1,aiO,pY,Sem.run_bind,fg];rfl,bj.v rfl⟩
 | @min2 x y k i j as hx hy =>
  have e1:=cu x lC;rw [hx] at e1;have e1:=e1.eu
  have e2:=cu y lC;rw [hy] at e2;have e2:=e2.eu
  exact⟨.int k (if j<i then j else i),by simp [execOp,resolve,invoke,builtin,e1,e2,Builtin.min_,Builtin.min2],bj.int⟩
 | @max2 x y k i j as hx hy =>
  have e1:=cu x lC;rw [hx] at e1;have e1:=e1.eu
  have e2:=cu y lC;rw [hy] at e2;have e2:=e2.eu
  exact⟨.int k (if j > i then j else i),by simp [execOp,resolve,invoke,builtin,e1,e2,Builtin.max_,Builtin.max2],bj.int⟩
 | @ahE T x i s k n b hx hT hi h0 hb =>
  have e1:=cu x bS;rw [hx] at e1;have e1:=e1.eu
  have e2:=cu i bS;rw [hi] at e2;have e2:=e2.eu
  exact⟨.int .u8 b.toNat,by simp [execOp,e1,e2,Instr.index,asIntOf,run_underlying hT,h0,hb],bj.int⟩
 | @aa3 f xs as fn e vs r1 r2 hf qG hb hn he hx hr h1 h2 =>
  have hargs:xs.map a.eval=vs.toArray:=by
   apply u9
   rw [Array.toList_map]
   have:∀ (l:List Operand) (vs:List Value),l.map ρ=vs.map LV.v->(∀ x∈l,bj Z μ w (ρ x) (a.eval x))->l.map a.eval=vs:=by
    intro l
    induction l with
    | nil =>
         intro vs h _;cases vs with
         | nil=>rfl
         | cons=>simp at h
    | cons y ys ih =>
     intro vs h hr
     cases vs with
     | nil=>simp at h
     | cons v vs =>
      simp only [nv,fJ] at h ⊢
      have h3:=hr y aT
      rw [h.1] at h3
      exact⟨h3.eu,ih vs h.2 (fun z hz=>hr z (by simp [hz]))⟩
   exact this xs.toList vs hx (fun x hx=>cu x (by simp [Op.operands,Call.operands];right;simpa using hx))
  have hc:=run_callFunc_extern (P:=P) (args:=vs.toArray) hf qG hb hn he w
  refine⟨.tuple #[r1,r2],?_,⟨#[r1,r2],rfl,?_⟩⟩
  ·rw [hr w] at hc
   simp only [execOp,resolve,Act.eval,Deferred.ofValue,Sem.run_bind,Sem.run_pure,Result.andThen_ok,invoke]
   rw [hargs]
   simp only [Array.append_empty,Array.empty_append]
   rw [hc];rfl
  ·exact⟨r1,[r2],rfl,⟨by simp [LV.isAgg],fun _=>by simp [aC,h1]⟩,r2,[],rfl,⟨by simp [LV.isAgg],fun _=>by simp [aC,h2]⟩,rfl⟩
 | @zu T x y U s t hx hy h =>
  have e1:=cu x bS;rw [hx] at e1;have e1:=e1.eu
  have e2:=cu y bS;rw [hy] at e2;have e2:=e2.eu
  refine⟨.string (s++t),?_,⟨by simp [LV.isAgg],fun _=>by simp [aC,Value.oneCell']⟩⟩
  have h1:(binOp .add T (.string s) (.string t)).run P w=.ok (.string (s++t)) w:=by
   simp only [binOp,Op.stringOp]
   rw [if_neg (by have:IntKind.i64.max=9223372036854775807:=rfl;rw [this];omega)];rfl
  simp only [execOp,e1,e2,eqGuard]
  simp [h1]
 | @eqS T x y U s t hx hy =>
  have e1:=cu x bS;rw [hx] at e1;have e1:=e1.eu
  have e2:=cu y bS;rw [hy] at e2;have e2:=e2.eu
  refine⟨.bool (s.toList==t.toList),?_,bj.bool⟩
  have h1:(binOp .eql T (.string s) (.string t)).run P w=.ok (.bool (s.toList==t.toList)) w:=by
   simp only [binOp,Op.stringOp];rfl
  simp only [execOp,e1,e2,eqGuard]
  simp [h1]
 | @amA S D E x b off len blk ns hS hE hD hx hb hs hv hl =>
  have e1:=cu x bS;rw [hx] at e1
  have e3:=e1.2 rfl
  simp only [aC] at e3
  refine⟨_,?_,⟨by simp [LV.isAgg],fun _=>by simp only [aC];exact⟨rfl,by simp [Value.oneCell']⟩⟩⟩
  have hlen:len=ns.length:=by
   have:=congrArg apt hv
   simp only [eG,kE,fo] at this;omega
  have vn:∀ v:Value,(∀ k n,v≠.int k n)->(∀ a b,v≠.float a b)->True:=fun _ _ _=>trivial
  rcases e3 with⟨e3,hl0⟩ | ⟨id,cap,c,U,fz,q1,q2,q3,q4,q5⟩
  ·simp only [fJ,and_true] at e3
   have:ns=[]:=m8 ae
   subst this
   simp [execOp,e3,convert,run_underlying hS,run_underlying hD,run_underlying hE,Conv.bytesToString]
  ·simp only [fJ,and_true] at q1
   obtain⟨blk',g1,cc,T',part,rest,g2,g3,g4⟩:=hh b id q2
   rw [hb] at g1;cases g1
   rw [hs] at g4
   have hcell:∀ (l:List LV) (ps:List Value),aR Z μ w 1 l ps->∀ (j n:Nat),l[j]?=some (.v (.int .u8 (n:Nat)))->ps[j]?=some (.int .u8 (n:Nat)):=by
    intro l
    induction l with
    | nil=>intro ps _ j n h;simp at h
    | cons y ys ih =>
     intro ps hr j n h
     simp only [aR] at hr
     obtain⟨ch,ps',rfl,k1,k2,k3⟩:=hr
     match ch,k1 with
     | [u],_ =>
      cases j with
      | zero =>
       simp only [qo,fp] at h
       subst h
       simp only [aC] at k2
       obtain⟨k2,_⟩:=k2
       simp only [fJ,and_true] at k2
       simp [k2]
      | succ j =>
       have:=ih ps' k3 j n mW
       simpa using this
   have hld:(loadCells ⟨id,off*1,none⟩ len).run P w=.ok ((ns.map aiF).map (Value.int .u8)).toArray w:=by
    have hL:len=((ns.map aiF).map (Value.int .u8)).length:=by simp [hlen]
    rw [hL]
    refine run_loadCells_list w _ _ (fun j v hv'=>?_)
    have hj:j<ns.length:=by
     rcases gM j ns.length with h | h
     ·exact h
     ·rw [xL mW] at hv';cases hv'
    have hv2:v=.int .u8 ((ns[j]:Nat):Int):=by
     rw [cq (by simpa using hj)] at hv'
     simp at hv';exact hv'.symm
    have hvj:blk.vals[off+j]?=some (.v (.int .u8 ((ns[j]:Nat):Int))):=by
     have:=congrArg (fun l=>l[j]?) hv
     simp only [List.getElem?_take,if_pos (show j<len by omega),sA,iV,cq hj,pY] at this
     exact this
    have hp:=hcell _ _ g4 (off+j) _ hvj
    have ag6:(⟨id,off*1,none⟩:Addr).add j=⟨id,off+j,none⟩:=by unfold Addr.add;split<;>simp_all
    rw [ag6,cell_of_row w id (off+j) cc T' (0,0) g2,hv2]
    rw [<-ab3,g3,aaz (by rcases gM (off+j) part.length with h | h;exact h;rw [xL h] at hp;cases hp)]
    exact hp
   have rP:=run_bytesToString w _ len cap _ hld
   simp only [execOp,q1]
   rw [Sem.run_bind]
   have:(convert S D (.slice (some ⟨id,off*1,none⟩) len cap)).run P w=.ok (.string ((ns.map aiF).foldl (fun r n=>r.push (UInt8.ofNat n.toNat)) ByteArray.empty)) w:=by
    simp only [convert,Sem.run_bind,run_underlying hS,run_underlying hD,Result.andThen_ok,run_underlying hE]
    exact rP
   rw [this];rfl
 | @aaJ T E zs ps n sz ag hT hE hf hz hp =>
  have hm:∀ p∈ps.toList,bj Z μ w (ρ p.2) (a.eval p.2):=fun p hp=>cu p.2 (by simp [Op.operands];exact⟨p.1,by simpa using hp⟩)
  obtain⟨v,h1,h2⟩:=azQ (P:=P) (Z:=Z) (μ:=μ) (w:=w) (a:=a) hT hE hf hz hp hm
  exact⟨v,by simp only [execOp];rw [Sem.run_bind,h1];rfl,h2⟩
 | @build T zs ps hT hz hp =>
  have hm:∀ p∈ps.toList,bj Z μ w (ρ p.2) (a.eval p.2):=fun p hp=>cu p.2 (by simp [Op.operands];exact⟨p.1,by simpa using hp⟩)
  obtain⟨v,h1,h2⟩:=aFX (P:=P) (Z:=Z) (μ:=μ) (w:=w) (a:=a) hT hz hp hm
  exact⟨v,by simp only [execOp];rw [Sem.run_bind,h1];rfl,h2⟩
end
end Go.Lg
namespace Go.Lg
def bW.le (H H':bW):Prop:=∀ b blk,H b=some blk->∃ m,H' b=some ⟨blk.sz,blk.vals,m⟩/\(blk.mt=false->m=false)/\(blk.mt=true->m=false->b≠0)
def qg (μ:Nat->Option Nat) (d id:Nat):Nat->Option Nat:=fun b=>if b=d then some id else μ b
section
variable {P:Program} {W w w':World} {X:XS} {Z0 Z:Nat->Prop} {μ:Nat->Option Nat} {H:bW}
theorem uy.mono {Z':Nat->Prop} {bm:Nat->Option Nat} {blk:bh} {id:Nat} (hz:∀ id,Z id->Z' id) (hm:∀ b id,μ b=some id->bm b=some id) (hf:Frame Z μ w w')
  (hid:w'.heap[id]?=w.heap[id]?) (h:uy Z μ w blk id):uy Z' bm w' blk id:=by
 obtain⟨c,T,part,rest,h1,h2,h3⟩:=h
 exact⟨c,T,part,rest,hid.trans h1,h2,h3.mono hz hm hf⟩
theorem Core.lt (hc:Core W X Z0 μ Z H w) {b id:Nat} (h:μ b=some id):id<w.heap.size:=by
 obtain⟨blk,_,c,T,part,rest,h1,_⟩:=hc.heap b id h
 exact(mN.1 h1).1
theorem Core.xl {H':bW} (hc:Core W X Z0 μ Z H w) (hle:H.le H'):∃ Z',Core W X Z0 μ Z' H' w/\(∀ id,Z id->Z' id):=by
 refine⟨fun id=>Z id\/∃ b blk,μ b=some id/\H' b=some blk/\blk.mt=false,⟨hc.cC,?_,fun id h=>.inl (hc.jG id h),?_,hc.inj,hc.own,hc.x0,hc.ov,hc.x1,?_,fun b id blk h1 h2 h3=>.inr ⟨b,blk,h1,h2,h3⟩,?_⟩,fun id h=>.inl h⟩
 ·rintro id (h | ⟨b,blk,h,_⟩)
  ·exact hc.lI id h
  ·exact hc.lt h
 ·rintro id (h | ⟨b,blk,h,h2,h3⟩)
  ·exact hc.lK id h
  ·obtain⟨uA,g1,_⟩:=hc.heap b id h
   obtain⟨m,g2,g3,g4⟩:=hle b uA g1
   rw [g2] at h2;cases h2
   simp only at h3;subst h3
   cases hm:uA.mt with
   | false=>exact hc.lK id (hc.b9 b id uA h g1 hm)
   | true =>
    rcases hc.own b id h with h | h' | h'
    ·exact .inr (.inl h)
    ·exact absurd (hc.x0 b id h h') (g4 hm rfl)
    ·exact .inr (.inr h')
 ·rintro b id blk h1 h2 h3 (h | ⟨b',blk',h4,h5,h6⟩)
  ·obtain⟨uA,g1,_⟩:=hc.heap b id h1
   obtain⟨m,g2,g3,_⟩:=hle b uA g1
   rw [g2] at h2;cases h2
   cases hm:uA.mt with
   | false=>have:=g3 hm;subst this;simp at h3
   | true=>exact hc.jx b id uA h1 g1 hm h
  ·have:=hc.inj b b' id h1 h4
   subst this
   rw [h2] at h5;cases h5
   simp [h3] at h6
 ·intro b id h
  obtain⟨blk,g1,g2⟩:=hc.heap b id h
  obtain⟨m,g3,_⟩:=hle b blk g1
  refine⟨_,g3,?_⟩
  obtain⟨c,T,part,rest,h1,h2,h3⟩:=g2
  exact⟨c,T,part,rest,h1,h2,h3.mono (fun id h=>.inl h) (fun _ _ h=>h) (Frame.refl _ _ _) |>.mono (fun _ h=>h) (fun _ _ h=>h) ⟨fun _ _=>rfl,(Frame.refl Z μ w).m⟩⟩
structure sD (w w':World) (o:Obj):Prop where
 os:w'.os=w.os
 tape:w'.tape=w.tape
 output:w'.output=w.output
 heap:w'.heap=w.heap.push o
theorem sD.old {o:Obj} (h:sD w w' o) {k:Nat} (hk:k<w.heap.size):w'.heap[k]?=w.heap[k]?:=by
 rw [h.heap,Array.getElem?_push,if_neg ae]
theorem sD.new {o:Obj} (h:sD w w' o):w'.heap[w.heap.size]?=some o:=by
 rw [h.heap];simp
theorem sD.alloc (w:World) (o:Obj):sD w (w.alloc o) o:=⟨rfl,rfl,rfl,rfl⟩
theorem Core.avY (hc:Core W X Z0 μ Z H w) (hold:∀ k,k<w.heap.size->w'.heap[k]?=w.heap[k]?):Frame Z μ w w' :=
 ⟨fun id h=>hold id (hc.lI id h),fun _ id h c _ _ hh=>⟨c,(hold id (hc.lt h)).trans hh,rfl⟩⟩
theorem Core.push {d:Nat} {blk:bh} {c:Array Value} {T:TypeId} {part rest:List Value} (hc:Core W X Z0 μ Z H w) (hd:H d=some blk) (tC:μ d=none)
  (hp:sD w w' (.cells c T (0,0))) (h1:c.toList=part++rest) (h2:aR Z μ w blk.sz blk.vals part) :
  ∃ Z',Core W X Z0 (qg μ d w.heap.size) Z' H w'/\(∀ id,Z id->Z' id)/\(∀ b id,μ b=some id->qg μ d w.heap.size b=some id)/\Frame Z μ w w' /\
   qg μ d w.heap.size d=some w.heap.size/\w'.heap[w.heap.size]?=some (.cells c T (0,0)):=by
 have hup:∀ b id,μ b=some id->qg μ d w.heap.size b=some id:=fun b id h=>by
  unfold qg;split
  ·subst_vars;rw [tC] at h;cases h
  ·exact h
 have dO:=hc.avY (fun k hk=>hp.old hk)
 have hinv:∀ b id,qg μ d w.heap.size b=some id->(b=d/\id=w.heap.size)\/(b≠d/\μ b=some id):=fun b id h=>by
  unfold qg at h;split at h
  ·cases h;exact .inl ⟨by assumption,rfl⟩
  ·exact .inr ⟨by assumption,h⟩
 have hzz:∀ id,Z id->(Z id\/(blk.mt=false/\id=w.heap.size)):=fun id h=>.inl h
 refine⟨fun id=>Z id\/(blk.mt=false/\id=w.heap.size),⟨?_,?_,fun id h=>.inl (hc.jG id h),?_,?_,?_,?_,hc.ov,fun id h=>hup 0 id (hc.x1 id h),?_,?_,?_⟩,hzz,hup,dO,by simp [qg],hp.new⟩
 ·exact⟨hp.os.trans hc.cC.os,hp.tape.trans hc.cC.tape,hp.output.trans hc.cC.output,by rw [hp.heap,ajX];have:=hc.cC.size;omega,
   fun k hk hx=>(hp.old (by have:=hc.cC.size;omega)).trans (hc.cC.block k hk hx),
   fun k hx c T fz h=>let ⟨c',g1,g2⟩:=hc.cC.vx k hx c T fz h;⟨c',(hp.old (mN.1 g1).1).trans g1,g2⟩⟩
 ·rintro id (h | ⟨_,rfl⟩)
  ·have:=hc.lI id h;rw [hp.heap,ajX];omega
  ·rw [hp.heap,ajX];omega
 ·rintro id (h | ⟨_,rfl⟩)
  ·exact hc.lK id h
  ·exact .inr (.inl hc.cC.size)
 ·intro b b' id h h'
  rcases hinv b id h with⟨rfl,rfl⟩ | ⟨n1,h1⟩<;>rcases hinv b' _ h' with⟨rfl,e⟩ | ⟨n2,h2⟩
  ·rfl
  ·have:=hc.lt h2;omega
  ·have:=hc.lt h1;omega
  ·exact hc.inj b b' id h1 h2
 ·intro b id h
  rcases hinv b id h with⟨rfl,rfl⟩ | ⟨n1,h1⟩
  ·exact .inl hc.cC.size
  ·exact hc.own b id h1
 ·intro b id h hx
  rcases hinv b id h with⟨rfl,rfl⟩ | ⟨n1,h1⟩
  ·have:=hc.ov _ (.inl hx);have:=hc.cC.size;omega
  ·exact hc.x0 b id h1 hx
 ·rintro b id bk h hb hm (hz | ⟨ye,rfl⟩)
  ·rcases hinv b id h with⟨rfl,rfl⟩ | ⟨n1,h1⟩
   ·have:=hc.lI _ hz;omega
   ·exact hc.jx b id bk h1 hb hm hz
  ·rcases hinv b _ h with⟨rfl,_⟩ | ⟨n1,h1⟩
   ·rw [hd] at hb;cases hb;simp [hm] at ye
   ·have:=hc.lt h1;omega
 ·intro b id bk h hb hm
  rcases hinv b id h with⟨rfl,rfl⟩ | ⟨n1,h1⟩
  ·rw [hd] at hb;cases hb;exact .inr ⟨hm,rfl⟩
  ·exact .inl (hc.b9 b id bk h1 hb hm)
 ·intro b id h
  rcases hinv b id h with⟨rfl,rfl⟩ | ⟨n1,h3⟩
  ·exact⟨blk,hd,c,T,part,rest,hp.new,h1,h2.mono hzz hup dO⟩
  ·obtain⟨bk,g1,g2⟩:=hc.heap b id h3
   exact⟨bk,g1,g2.mono hzz hup dO (hp.old (hc.lt h3))⟩
end
mutual
inductive cV (H:bW):LV->LV->Prop
 | pure {x} (h:x.pure=true):cV H x x
 | nil (sz):cV H (.v (.slice none 0 0)) (.list sz [])
 | ref {b sz off len blk} (hb:H b=some blk) (hs:blk.sz=sz) (hp:aN blk.vals=true) (hl:off+len<=blk.vals.length) (hf:blk.mt=false) :
   cV H (.ref b sz off len) (.list sz ((blk.vals.drop off).take len))
 | aB {b sz i o blk x y n ag} (hb:H b=some blk) (hs:blk.sz=sz) (hi:blk.vals[i]?=some x) (hx:x.aw=sz) (hy:x.at o n ag=some y) (hp:y.pure=true) (hf:blk.mt=false) :
   cV H (.aB b sz i o) (.cm y)
 | ahj {b sz off len blk l'} (hb:H b=some blk) (hs:blk.sz=sz) (hl:off+len<=blk.vals.length) (hf:blk.mt=false) (h:fT H ((blk.vals.drop off).take len) l'):cV H (.ref b sz off len) (.list sz l')
 | agg {l l'} (h:fT H l l'):cV H (.agg l) (.agg l')
inductive fT (H:bW):List LV->List LV->Prop
 | nil:fT H [] []
 | cons {x y xs ys} (h:cV H x y) (t:fT H xs ys):fT H (x :: xs) (y :: ys)
end
section
variable {W w:World} {X:XS} {Z0 Z:Nat->Prop} {μ bm:Nat->Option Nat} {H H':bW}
mutual
theorem cV.lay:∀ {x y:LV},cV H x y->y.isAgg=x.isAgg/\y.aw=x.aw/\y.pure=true
 | _,_,.pure h=>⟨rfl,rfl,h⟩
 | _,_,.nil _=>⟨rfl,rfl,rfl⟩
 | _,_,.ref hb hs hp hl hf=>⟨rfl,rfl,by
   simp only [LV.pure]
   rw [yV] at hp ⊢
   exact fun x hx=>hp x (vL (vM hx))⟩
 | _,_,.aB hb hs hi hx hy hp hf=>⟨rfl,rfl,by simpa [LV.pure] using hp⟩
 | _,_,.ahj hb hs hl hf h=>⟨rfl,rfl,by simpa [LV.pure] using (fT.lay h).2⟩
 | _,_,.agg h=>by
   have:=fT.lay h
   exact⟨rfl,by simp [LV.aw,this.1],by simp [LV.pure,this.2]⟩
theorem fT.lay:∀ {x y:List LV},fT H x y->cU y=cU x/\aN y=true
 | _,_,.nil=>⟨rfl,rfl⟩
 | _,_,.cons h t=>by
   have h1:=cV.lay h
   have h2:=fT.lay t
   exact⟨by simp [cU,h1.2.1,h2.1],by simp [aN,h1.2.2,h2.2]⟩
end
theorem fT.len:∀ {x y:List LV},fT H x y->y.length=x.length
 | _,_,.nil=>rfl
 | _,_,.cons _ t=>by simp [fT.len t]
mutual
theorem cV.sound (hc:Core W X Z0 μ Z H w):∀ {x y:LV} {cs:List Value},cV H x y->aC Z μ w x cs->aC Z bm w y cs
 | _,_,_,.pure h,hr=>aC.kv (fun _ h=>h) (fun _ _=>rfl) _ _ h hr
 | _,_,_,.nil sz,hr=>by
   simp only [aC] at hr ⊢
   exact⟨none,0,0,hr.1,rfl,bp _,.inl trivial,rfl⟩
 | _,_,_,@cV.ref _ b sz off len blk hb hs hp hl hf,hr=>by
   simp only [aC] at hr ⊢
   rcases hr with⟨hr,rfl⟩ | ⟨id,cap,c,T,fz,h1,h2,h3,h4,h5⟩
   ·exact⟨none,0,0,hr,by simp,bp _,.inl aT,by simp [aN]⟩
   obtain⟨blk',g1,c',T',part,rest,g2,g3,g4⟩:=hc.heap b id h2
   rw [hb] at g1;cases g1
   rw [h4] at g2;cases g2
   refine⟨_,_,_,h1,by simp;omega,h3,?_,(yV _).2 fun x hx=>(yV _).1 hp x (vL (vM hx))⟩
   have hz:=hc.b9 b id blk h2 hb hf
   right
   obtain⟨c1,c2,d1,d2,d3⟩:=aR.split (blk.vals.take off) (blk.vals.drop off) part abK
   obtain⟨c3,c4,d4,d5,d6⟩:=aR.split ((blk.vals.drop off).take len) ((blk.vals.drop off).drop len) c2 (by rw [vv];exact d3)
   have lr:=aR.length _ _ d2
   rw [eG,lL ae,hs] at lr
   refine⟨id,off*sz,c,T,(0,0),c3,c4++rest,rfl,hz,h4,?_,?_⟩
   ·rw [g3,d1,d4,<-lr];simp
   ·rw [hs] at d5
    refine aR.kv (fun _ h=>h) (fun _ _=>rfl) _ _ _ ?_ d5
    rw [yV] at hp ⊢
    exact fun x hx=>hp x (vL (vM hx))
 | _,_,_,@cV.aB _ b sz i o blk x y n ag hb hs hi hx hy hp hf,hr=>by
   simp only [aC] at hr ⊢
   obtain⟨id,h1,h2⟩:=hr
   obtain⟨blk',g1,c,T,part,rest,g2,g3,g4⟩:=hc.heap b id h2
   rw [hb] at g1;cases g1
   have hz:=hc.b9 b id blk h2 hb hf
   obtain⟨ch,post,k1,k2,k3⟩:=anc (off:=0) (by simpa using g3) g4 hi
   obtain⟨pre,vB,vS,j1,j2,j3,j4,j5,j6,j7,j8⟩:=LV.aj3 x o n ag y ch hy k3 (by rw [k2,hs,hx])
   refine⟨id,_,c,T,(0,0),vB,vS++post,h1,hz,g2,?_,by rw [j3,j6],aC.kv (fun _ h=>h) (fun _ _=>rfl) _ _ hp j4,hp⟩
   rw [fw,hs] at k1
   rw [<-qy,k1,j1,<-j2];simp
 | _,_,_,@cV.ahj _ b sz off len blk l' hb hs hl hf h,hr=>by
   simp only [aC] at hr ⊢
   have hll:=fT.len h
   have hlp:=(fT.lay h).2
   rw [eG,kE,lL ae] at hll
   rcases hr with⟨hr,rfl⟩ | ⟨id,cap,c,T,fz,h1,h2,h3,h4,h5⟩
   ·exact⟨none,0,0,hr,hll.symm,bp _,.inl (List.length_eq_zero_iff.1 hll),hlp⟩
   obtain⟨blk',g1,c',T',part,rest,g2,g3,g4⟩:=hc.heap b id h2
   rw [hb] at g1;cases g1
   rw [h4] at g2;cases g2
   refine⟨_,_,_,h1,hll.symm,h3,?_,hlp⟩
   have hz:=hc.b9 b id blk h2 hb hf
   right
   obtain⟨c1,c2,d1,d2,d3⟩:=aR.split (blk.vals.take off) (blk.vals.drop off) part abK
   obtain⟨c3,c4,d4,d5,d6⟩:=aR.split ((blk.vals.drop off).take len) ((blk.vals.drop off).drop len) c2 (by rw [vv];exact d3)
   have lr:=aR.length _ _ d2
   rw [eG,lL ae,hs] at lr
   refine⟨id,off*sz,c,T,(0,0),c3,c4++rest,rfl,hz,h4,?_,?_⟩
   ·rw [g3,d1,d4,<-lr];simp
   ·rw [hs] at d5
    exact fT.atk hc h d5
 | _,_,_,.agg h,hr=>by
   simp only [aC] at hr ⊢
   exact fT.sound hc h hr
theorem fT.sound (hc:Core W X Z0 μ Z H w):∀ {x y:List LV} {cs:List Value},fT H x y->cA Z μ w x cs->cA Z bm w y cs
 | _,_,_,.nil,hr=>by simpa [cA] using hr
 | _,_,_,.cons h t,hr=>by
   simp only [cA] at hr ⊢
   obtain⟨c1,c2,rfl,h2,h3,h4⟩:=hr
   exact⟨c1,c2,rfl,by rw [h2,(cV.lay h).2.1],cV.sound hc h h3,fT.sound hc t h4⟩
theorem fT.atk (hc:Core W X Z0 μ Z H w) {sz:Nat}:∀ {x y:List LV} {cs:List Value},fT H x y->aR Z μ w sz x cs->aR Z bm w sz y cs
 | _,_,_,.nil,hr=>by simpa [aR] using hr
 | _,_,_,.cons h t,hr=>by
   simp only [aR] at hr ⊢
   obtain⟨c1,c2,rfl,h2,h3,h4⟩:=hr
   exact⟨c1,c2,rfl,h2,cV.sound hc h h3,fT.atk hc t h4⟩
end
mutual
theorem cV.le (hle:H.le H'):∀ {x y:LV},cV H x y->cV H' x y
 | _,_,.pure h=>.pure h
 | _,_,.nil sz=>.nil sz
 | _,_,.ref hb hs hp hl hf=>by
   obtain⟨m,g1,g2,_⟩:=hle _ _ hb
   exact cV.ref (blk:=⟨_,_,m⟩) g1 hs hp hl (g2 hf)
 | _,_,.aB hb hs hi hx hy hp hf=>by
   obtain⟨m,g1,g2,_⟩:=hle _ _ hb
   exact cV.aB (blk:=⟨_,_,m⟩) g1 hs hi hx hy hp (g2 hf)
 | _,_,.ahj hb hs hl hf h=>by
   obtain⟨m,g1,g2,_⟩:=hle _ _ hb
   exact cV.ahj (blk:=⟨_,_,m⟩) g1 hs hl (g2 hf) (fT.le hle h)
 | _,_,.agg h=>.agg (fT.le hle h)
theorem fT.le (hle:H.le H'):∀ {x y:List LV},fT H x y->fT H' x y
 | _,_,.nil=>.nil
 | _,_,.cons h t=>.cons (cV.le hle h) (fT.le hle t)
end
theorem cV.ne {x y:LV} (h:cV H x y):x≠.any/\∀ l,x≠.bf l:=by
 cases h with
 | pure h=>exact⟨LV.fk h,LV.eP h⟩
 | _=>exact⟨by simp,by simp⟩
theorem cV.abE (hc:Core W X Z0 μ Z H w) {x y:LV} {v:Value} (h:cV H x y) (hr:bj Z μ w x v):fM Z bm w y v:=by
 have h1:=bj.yU h.ne.2 h.ne.1 hr
 obtain⟨e1,_,_⟩:=h.lay
 exact⟨fun e=>let ⟨cs,g1,g2⟩:=h1.1 (e1 ▸ e);⟨cs,g1,cV.sound hc h g2⟩,fun e=>cV.sound hc h (h1.2 (e1 ▸ e))⟩
end
end Go.Lg
end
