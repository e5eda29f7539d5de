/- Texts LgE of this proof, joined. -/
import Derived.Orders
import Derived.Below
import Derived.Deep.MidRow
import Derived.Deep.AppendSrc
import Derived.Laws.MakeOwn
import Derived.WalkKit
import Derived.Laws.Externs
import Derived.Laws.BytesString
import Derived.Laws.Cells
set_option linter.unusedVariables false
set_option linter.unusedSimpArgs false
namespace Go.Lg
theorem J {p:Prop} (h:p:=by omega):p:=h
theorem dC {p:Prop} (h:p:=by exact dB rfl (by first | exact .pure rfl | exact .pure (xd _) | exact .pure (iN _) | exact .pure (ao.pure _) | exact .pure (eB eZ _ _) | exact .pure (eB ao _ _))):p:=h
theorem aD2 {p:Prop} (h:p:=by first | exact .pure rfl | exact .pure (xd _) | exact .pure (iN _) | exact .pure (ao.pure _) | exact .pure (eB eZ _ _) | exact .pure (eB ao _ _)):p:=h
theorem an {p:Prop} (h:p:=by decide +kernel):p:=h
theorem ai {p:Prop} (h:p:=by decide):p:=h
theorem pn {p:Prop} (h:p:=by exact .ga (d:=13) (news:=x.2.2.map eW) rfl rfl rfl rfl (by simp) (.inl rfl) (by decide) Tryz.underlying22 Tryz.underlying22 (show cU _ _ (eW 0) from Z3) T3 rfl B3 (.inr (.inl rfl)) (by simp;omega) (by simp;omega) (by decide)):p:=h
theorem fq {p:Prop} (h:p:=by exact fW [] rfl rfl rfl (ao.au _) (nK _) cJ (.pure (ao.pure _))):p:=h
theorem cm {p:Prop} (h:p:=by simp [LV.au,cF,ao.au]):p:=h
theorem cB {p:Prop} (h:p:=by exact .bin rfl rfl (ab9 (by omega))):p:=h
theorem bm {p:Prop} (h:p:=by simp;omega):p:=h
theorem aaq {p:Prop} (h:p:=by exact .ga (d:=1) (news:=[.agg [.list 6 ((x.1.take na).map aD),.list 6 ((x.1.drop na).map aD),ah (k6 (lk (x.1.take na) (x.1.drop na))),ah (kV (lk (x.1.take na) (x.1.drop na)))]]) rfl rfl rfl rfl (by simp) (.inl rfl) (by decide) Tryz.underlying43 Tryz.underlying43 uC nP rfl B51 (.inl ⟨143,0,_,rfl,by decide,rfl,rfl,by simp,rfl,aAJ⟩) (by simp;omega) (by simp;omega) (by decide)):p:=h
theorem vz {p:Prop} (h:p:=by exact .ga (d:=39) (news:=[aT (dpF l j)]) rfl rfl rfl rfl (by simp) (.inl rfl) (by decide) Tryz.underlying26 Tryz.underlying26 zq rT cs B42 (.inl ⟨38,0,_,rfl,by decide,rfl,rfl,by simp,rfl,by simp [aG,bw.pure]⟩) (by simp;omega) (by simp;omega) (by decide)):p:=h
theorem tx {p:Prop} (h:p:=by exact .ga (d:=6) (news:=x.1.map aD) rfl rfl rfl rfl (by simp) (.inl rfl) (by decide) Tryz.underlying49 Tryz.underlying49 xr (by rw [bS.isAgg];exact lE) cs B54 (.inr (.inl rfl)) (by simp;omega) (by simp;omega) (by decide)):p:=h
theorem bH {p:Prop} (h:p:=by simp [Op.operands]):p:=h
theorem aO {p:Prop} (h:p:=by simp):p:=h
theorem qH {p:Prop} (h:p:=by exact ⟨_,trivial,((aj (aj (aj (aj (aj (bC cl) cl) cl) cl) cl) cl)).symm⟩):p:=h
theorem jz {p:Prop} (h:p:=by exact .bin rfl rfl (abU (by omega) (by omega))):p:=h
theorem gV {p:Prop} (h:p:=by first | assumption | exact cE _):p:=h
theorem kG {p:Prop} (h:p:=by first | omega | (simp only [List.length_map];omega)):p:=h
theorem rh {p:Prop} (h:p:=by exact fW [] rfl rfl rfl (bS.au _) (yh _) lE (.pure (bS.pure _))):p:=h
theorem jH {p:Prop} (h:p:=by simp [Op.operands,Call.operands]):p:=h
theorem ac5 {p:Prop} (h:p:=by rw [show (ue (jB (kL (jD u v)).a [(cg.getD 0 default).p] (b8.map aF.p)) (jB (kL (jD u v)).a [(cg.getD (cg.length-1) default).p] (b8.map aF.p)))=false from apM];simp):p:=h
theorem qo {p:Prop} (h:p:=by exact fW [] rfl rfl rfl cs (dJ cs rfl) ij (.pure pu)):p:=h
theorem ai8 {p:Prop} (h:p:=by exact .ga (d:=26) (news:=[jo (lQ x),jo (lU x)]) rfl rfl rfl rfl (by simp) (.inl rfl) (by decide) Tryz.underlying148 Tryz.underlying148 ajX vJ rfl awy (.inl ⟨155,0,_,rfl,by decide,rfl,rfl,by simp,rfl,by simp [aG,sn]⟩) (by simp;omega) (by simp;omega) (by decide)):p:=h
theorem zH {p:Prop} (h:p:=by first | exact auX (by omega) adR | exact aCX (by omega) (by simpa using ady) | exact agp (by omega)):p:=h
theorem xk {p:Prop} (h:p:=by first | omega | (simp only [oG,oh,ou,oM];omega)):p:=h
theorem jS {p:Prop} (h:p:=by exact iJ (i+1) (by omega)):p:=h
theorem aaO {p:Prop} (h:p:=by first | exact .apu (h:=_) eZ rfl Tryz.underlying29 ph rfl om | exact .adV rfl Tryz.underlying29 ph rfl om om):p:=h
theorem ky {p:Prop} (h:p:=by rw [List.length_map];omega):p:=h
theorem yW {p:Prop} (h:p:=by exact ⟨[],cs,[],by simp,rfl,by rw [hl,hd,h2];rfl,by simpa using hy,by rw [h2];rfl⟩):p:=h
theorem oC {p:Prop} (h:p:=by first | rw [n8,hl] | rw [me,hl]):p:=h
theorem cA {p:Prop} (h:p:=by grind):p:=h
theorem acG {p:Prop} (h:p:=by exact fW [] rfl rfl rfl rfl rfl cJ (.agg (.cons (.pure rfl) (.cons (.pure (iN _)) (.cons (.pure (iN _)) .nil))))):p:=h
theorem zT {p:Prop} (h:p:=by exact ⟨[],cs,[],by simp,rfl,by simpa [LV.au] using hl,hr,rfl,rfl,by simp,by simp⟩):p:=h
theorem qO {p:Prop} (h:p:=by first | omega | (simp;done) | (simp;omega)):p:=h
theorem aeB {p:Prop} (h:p:=by exact ⟨_,rfl,by rw [h0];simp [lay,ao.au,ao.isAgg],by rw [h0];exact LV.eF (ao.pure _),by rw [h0];exact LV.dZ (ao.pure _)⟩):p:=h
theorem acN {p:Prop} (h:p:=by exact ⟨_,trivial,((aj (aj (aj (aj (aj (aj (bC cl) cl) cl) cl) cl) cl) cl)).symm⟩):p:=h
theorem mF {p:Prop} (h:p:=by exact dB rfl (.pure rfl)):p:=h
theorem xG {p:Prop} (h:p:=by simp only [List.length_append,List.length_cons,List.length_nil];omega):p:=h
theorem ap7 {p:Prop} (h:p:=by exact .ga (d:=8) (news:=[ae (p.getD k 0)]) rfl rfl rfl rfl (by simp;omega) (.inl rfl) (by decide) Tryz.underlying25 Tryz.underlying25 jY cJ rfl kA (.inl ⟨19,0,_,rfl,by decide,rfl,rfl,by simp,rfl,by simp [aG,ao.pure]⟩) (by simp;omega) (by simp;omega) (by decide)):p:=h
theorem te {p:Prop} (h:p:=by exact .bin rfl rfl (xD (by omega) (by omega))):p:=h
theorem ae0 {p:Prop} (h:p:=by exact ⟨_,trivial,((aj (aj (aj (aj (aj (aj (aj (bC cl) cl) cl) cl) cl) cl) cl) cl)).symm⟩):p:=h
theorem aid {p:Prop} (h:p:=by exact .th (a:=i+1) (h:=k.length+1) rfl Tryz.underlying25 cJ (fun y hy=>by cases hy;exact⟨_,rfl⟩) (fun h=>by cases h) (fun y hy=>by cases hy) (fun _=>rfl) om om om):p:=h
theorem ahE {p:Prop} (h:p:=by exact .th (a:=i) (h:=k.length+1) rfl Tryz.underlying25 cJ (fun y hy=>by cases hy;exact⟨_,rfl⟩) (fun h=>by cases h) (fun y hy=>by cases hy) (fun _=>rfl) om om om):p:=h
theorem abp {p:Prop} (h:p:=by exact .bin rfl rfl (abL (by first | omega | (simp only [oG,oh,ou,oM];omega)))):p:=h
theorem ac0 {p:Prop} (h:p:=by exact sN [] rfl rfl rfl (ao.au _) (nK _) cJ (.pure (ao.pure _)) rfl (.pure rfl)):p:=h
theorem aih {p:Prop} (h:p:=by exact au3 [] rfl rfl rfl (ao.au _) (nK _) cJ (.pure (ao.pure _)) rfl rfl (ao.au _) (nK _) cJ (.pure (ao.pure _)) rfl (.pure rfl)):p:=h
theorem acm {p:Prop} (h:p:=by exact ⟨_,trivial,((aj (aj (aj (aj (bC cl) cl) cl) cl) cl)).symm⟩):p:=h
theorem aqt {p:Prop} (h:p:=by exact .app rfl rfl rfl rfl rfl (Nat.zero_le _) (.inr rfl) (by decide) Tryz.underlying29 Tryz.underlying29 aac ph rfl aah (.inr (.inl rfl)) (by first | (simp;done) | (simp;omega)) (by first | (simp;done) | (simp;omega)) (by decide)):p:=h
theorem vn {p:Prop} (h:p:=by first | omega | (simp only [bU];omega)):p:=h
theorem v8 {p:Prop} (h:p:=by exact .bin rfl rfl (py (by omega) (by omega))):p:=h
theorem uq {p:Prop} (h:p:=by first | (simp;done) | (simp;omega) | omega):p:=h
theorem uy {p:Prop} (h:p:=by exact tU rfl (.pure rfl) rfl (.pure rfl)):p:=h
theorem amL {p:Prop} (h:p:=by exact avL rfl rfl cs (dJ cs rfl) jI (by assumption) rfl rfl cs (dJ cs rfl) jI (by assumption) rfl rfl (ao.au _) (nK _) cJ (ao.pure _) rfl rfl (ao.au _) (nK _) cJ (ao.pure _) rfl rfl):p:=h
theorem acr {p:Prop} (h:p:=by exact zZ [] rfl rfl (.pure (iN _)) rfl (.pure (iN _)) rfl (.pure rfl)):p:=h
theorem nQ {p:Prop} (h:p:=by exact .azb aq9 jY):p:=h
theorem aoh {p:Prop} (h:p:=by exact aaw (hQ (x-1) _ ⟨hxd,aq2 hVe hRe pA (by omega) jG aaM (Nat.le_of_lt jN.1) jN.2,jN.1⟩) (aj (aj (aj (aj (aj (aj (aj (bC cl) cl) cl) cl) cl) cl) cl) cl)):p:=h
theorem wI {p:Prop} (h:p:=by rw [List.length_map,List.length_take];omega):p:=h
theorem sg {p:Prop} (h:p:=by first | rfl | (rw [aqv];rfl)):p:=h
theorem wK {p:Prop} (h:p:=by exact .bin rfl rfl (tp (by omega))):p:=h
theorem lr {p:Prop} (h:p:=by simpa using h):p:=h
theorem aj0 {p:Prop} (h:p:=by rw [bS.isAgg];exact lE):p:=h
theorem mh {p:Prop} (h:p:=by rw [gQ];omega):p:=h
theorem aeL {p:Prop} (h:p:=by exact adW rfl rfl cs (dJ cs rfl) rT (.pure pu) rfl rfl (cY l _)):p:=h
theorem aaQ {p:Prop} (h:p:=by simp only [List.length_cons,List.length_map];omega):p:=h
theorem aaP {p:Prop} (h:p:=by exact fW [] rfl rfl rfl rfl rfl cJ (.pure rfl)):p:=h
theorem aeE {p:Prop} (h:p:=by show rl (de p (l.getD i default))+rl (de p (l.getD i default))<=_;omega):p:=h
theorem afq {p:Prop} (h:p:=by exact .fu rfl rfl rfl rfl (dN.au m) (dJ (dN.au m) rfl) uM):p:=h
theorem vF {p:Prop} (h:p:=by exact iJ (j+1) (by omega)):p:=h
theorem aaf {p:Prop} (h:p:=by rw [List.take_append_drop];exact g4):p:=h
theorem agc {p:Prop} (h:p:=by simp [LV.pure,aG,aW ao,aW bw,-List.map_map]):p:=h
theorem oe {p:Prop} (h:p:=by exact .inl h):p:=h
theorem abP {p:Prop} (h:p:=by exact .bin rfl rfl (aed (by omega) (by omega))):p:=h
end Go.Lg
section
set_option linter.unusedVariables false
set_option linter.unusedSimpArgs false
namespace Go.Lg
inductive LV where
 | any
 | v (x:Value)
 | list (sz:Nat) (l:List LV)
 | agg (l:List LV)
 | ref (b sz off len:Nat)
 | iX (b sz off len cap:Nat)
 | aA (b sz i o:Nat)
 | bV (c:LV)
 | cV (f:FuncId) (cap:List LV)
 | a7 (l:List LV)
instance:Inhabited LV:=⟨.any⟩
mutual
def LV.au:LV->Nat
 | .agg l=>cF l
 | _=>1
def cF:List LV->Nat
 | []=>0
 | x :: xs=>x.au+cF xs
end
def LV.isAgg:LV->Bool
 | .agg _=>true
 | _=>false
mutual
def LV.pure:LV->Bool
 | .ref ..=>false
 | .iX ..=>false
 | .aA ..=>false
 | .a7 _=>false
 | .any=>false
 | .v _=>true
 | .list _ l=>aG l
 | .agg l=>aG l
 | .bV c=>c.pure
 | .cV _ l=>aG l
def aG:List LV->Bool
 | []=>true
 | x :: xs=>x.pure && aG xs
end
theorem vB (l:List LV):aG l=true↔∀ x∈l,x.pure=true:=by
 induction l with
 | nil=>simp [aG]
 | cons x xs ih=>simp [aG,ih]
mutual
def ay (Z:Nat->Prop) (μ:Nat->Option Nat) (w:World):LV->List Value->Prop
 | .any,cs=>∀ u∈cs,u.oneCell'=true
 | .v x,cs=>cs=[x]/\x.oneCell'=true
 | .list sz l,cs=>∃ a len cap,cs=[.slice a len cap]/\len=l.length/\len<=cap /\
   (l=[]\/∃ blk off c T fz part rest,a=some ⟨blk,off,none⟩/\Z blk/\w.heap[blk]?=some (.cells c T fz) /\
    c.toList.drop off=part++rest/\aM Z μ w sz l part)/\aG l=true
 | .agg l,cs=>b7 Z μ w l cs
 | .ref b sz off len,cs=>(cs=[.slice none 0 0]/\len=0)\/∃ id cap c T fz,cs=[.slice (some ⟨id,off*sz,none⟩) len cap]/\μ b=some id/\len<=cap /\
   w.heap[id]?=some (.cells c T fz)/\(off+cap)*sz<=c.size
 | .iX b sz off len cap,cs=>∃ id c T fz,cs=[.slice (some ⟨id,off*sz,none⟩) len cap]/\μ b=some id/\len<=cap /\
   w.heap[id]?=some (.cells c T fz)/\(off+cap)*sz<=c.size
 | .aA b sz i o,cs=>∃ id,cs=[.pointer (some ⟨id,i*sz+o,none⟩)]/\μ b=some id
 | .bV c,cs=>∃ blk off cc T fz part rest,cs=[.pointer (some ⟨blk,off,none⟩)]/\Z blk/\w.heap[blk]?=some (.cells cc T fz) /\
   cc.toList.drop off=part++rest/\part.length=c.au/\ay Z μ w c part/\c.pure=true
 | .cV f cap,cs=>∃ vs,cs=[.func (.func f) #[] vs]/\aM Z μ w 1 cap vs.toList/\aG cap=true
 | .a7 _,_=>False
def aM (Z:Nat->Prop) (μ:Nat->Option Nat) (w:World) (sz:Nat):List LV->List Value->Prop
 | [],cs=>cs=[]
 | x :: xs,cs=>∃ c1 c2,cs=c1++c2/\c1.length=sz/\ay Z μ w x c1/\aM Z μ w sz xs c2
def b7 (Z:Nat->Prop) (μ:Nat->Option Nat) (w:World):List LV->List Value->Prop
 | [],cs=>cs=[]
 | x :: xs,cs=>∃ c1 c2,cs=c1++c2/\c1.length=x.au/\ay Z μ w x c1/\b7 Z μ w xs c2
end
def eP (Z:Nat->Prop) (μ:Nat->Option Nat) (w:World) (lv:LV) (v:Value):Prop :=
 (lv.isAgg=true->∃ cs,v=.agg cs/\ay Z μ w lv cs.toList)/\(lv.isAgg=false->ay Z μ w lv [v])
def fe (Z:Nat->Prop) (μ:Nat->Option Nat) (w:World):List LV->List Value->Prop
 | [],vs=>vs=[]
 | x :: xs,vs=>∃ v iO,vs=v :: iO/\eP Z μ w x v/\fe Z μ w xs iO
def a9 (Z:Nat->Prop) (μ:Nat->Option Nat) (w:World):LV->Value->Prop
 | .a7 l,v=>∃ vs,v=.tuple vs/\fe Z μ w l vs.toList
 | .any,_=>True
 | lv,v=>eP Z μ w lv v
structure Frame (Z:Nat->Prop) (μ:Nat->Option Nat) (w w':World):Prop where
 z:∀ id,Z id->w'.heap[id]?=w.heap[id]?
 m:∀ b id,μ b=some id->∀ c T fz,w.heap[id]?=some (.cells c T fz)->∃ c',w'.heap[id]?=some (.cells c' T fz)/\c'.size=c.size
theorem Frame.refl (Z:Nat->Prop) (μ:Nat->Option Nat) (w:World):Frame Z μ w w:=⟨fun _ _=>rfl,fun _ _ _ c _ _ h=>⟨c,h,rfl⟩⟩
section
variable {Z Z':Nat->Prop} {μ bc:Nat->Option Nat} {w w':World}
mutual
theorem ay.mono (hz:∀ id,Z id->Z' id) (hm:∀ b id,μ b=some id->bc b=some id) (hf:Frame Z μ w w') :
  ∀ (lv:LV) (cs:List Value),ay Z μ w lv cs->ay Z' bc w' lv cs
 | .any,_,h=>by simpa [ay] using h
 | .v x,cs,h=>by simpa [ay] using h
 | .list sz l,cs,h=>by
   simp only [ay] at h ⊢
   obtain⟨a,len,cap,h1,h2,h3,h4,h9⟩:=h
   refine⟨a,len,cap,h1,h2,h3,?_,h9⟩
   rcases h4 with h4 | ⟨blk,off,c,T,fz,part,rest,e1,e2,e3,e4,e5⟩
   ·exact .inl h4
   ·exact .inr ⟨blk,off,c,T,fz,part,rest,e1,hz _ e2,(hf.z _ e2).trans e3,e4,aM.mono hz hm hf sz l part e5⟩
 | .agg l,cs,h=>by
   simp only [ay] at h ⊢
   exact b7.mono hz hm hf l cs h
 | .ref b sz off len,cs,h=>by
   simp only [ay] at h ⊢
   rcases h with h | ⟨id,cap,c,T,fz,h1,h2,h3,h4,h5⟩
   ·exact oe
   obtain⟨c',h6,h7⟩:=hf.m b id h2 c T fz h4
   exact .inr ⟨id,cap,c',T,fz,h1,hm _ _ h2,h3,h6,J⟩
 | .iX b sz off len cap,cs,h=>by
   simp only [ay] at h ⊢
   obtain⟨id,c,T,fz,h1,h2,h3,h4,h5⟩:=h
   obtain⟨c',h6,h7⟩:=hf.m b id h2 c T fz h4
   exact⟨id,c',T,fz,h1,hm _ _ h2,h3,h6,J⟩
 | .aA b sz i o,cs,h=>by
   simp only [ay] at h ⊢
   obtain⟨id,h1,h2⟩:=h
   exact⟨id,h1,hm _ _ h2⟩
 | .bV c,cs,h=>by
   simp only [ay] at h ⊢
   obtain⟨blk,off,cc,T,fz,part,rest,h1,h2,h3,h4,h5,h6,h7⟩:=h
   exact⟨blk,off,cc,T,fz,part,rest,h1,hz _ h2,(hf.z _ h2).trans h3,h4,h5,ay.mono hz hm hf c part h6,h7⟩
 | .cV f cap,cs,h=>by
   simp only [ay] at h ⊢
   obtain⟨vs,h1,h2,h3⟩:=h
   exact⟨vs,h1,aM.mono hz hm hf 1 cap vs.toList h2,h3⟩
 | .a7 _,_,h=>by simp [ay] at h
theorem aM.mono (hz:∀ id,Z id->Z' id) (hm:∀ b id,μ b=some id->bc b=some id) (hf:Frame Z μ w w') (sz:Nat) :
  ∀ (l:List LV) (cs:List Value),aM Z μ w sz l cs->aM Z' bc w' sz l cs
 | [],cs,h=>by simpa [aM] using h
 | x :: xs,cs,h=>by
   simp only [aM] at h ⊢
   obtain⟨c1,c2,h1,h2,h3,h4⟩:=h
   exact⟨c1,c2,h1,h2,ay.mono hz hm hf x c1 h3,aM.mono hz hm hf sz xs c2 h4⟩
theorem b7.mono (hz:∀ id,Z id->Z' id) (hm:∀ b id,μ b=some id->bc b=some id) (hf:Frame Z μ w w') :
  ∀ (l:List LV) (cs:List Value),b7 Z μ w l cs->b7 Z' bc w' l cs
 | [],cs,h=>by simpa [b7] using h
 | x :: xs,cs,h=>by
   simp only [b7] at h ⊢
   obtain⟨c1,c2,h1,h2,h3,h4⟩:=h
   exact⟨c1,c2,h1,h2,ay.mono hz hm hf x c1 h3,b7.mono hz hm hf xs c2 h4⟩
end
theorem pure_cons {x:LV} {xs:List LV} (h:aG (x :: xs)=true):x.pure=true/\aG xs=true:=by simpa [aG] using h
mutual
theorem ay.iY (hz:∀ id,Z id->Z' id) (hf:∀ id,Z id->w'.heap[id]?=w.heap[id]?) :
  ∀ (lv:LV) (cs:List Value),lv.pure=true->ay Z μ w lv cs->ay Z' bc w' lv cs
 | .any,_,_,h=>by simpa [ay] using h
 | .v x,cs,_,h=>by simpa [ay] using h
 | .list sz l,cs,hp,h=>by
   simp only [ay] at h ⊢
   obtain⟨a,len,cap,h1,h2,h3,h4,h9⟩:=h
   refine⟨a,len,cap,h1,h2,h3,?_,h9⟩
   rcases h4 with h4 | ⟨blk,off,c,T,fz,part,rest,e1,e2,e3,e4,e5⟩
   ·exact .inl h4
   ·exact .inr ⟨blk,off,c,T,fz,part,rest,e1,hz _ e2,(hf _ e2).trans e3,e4,aM.iY hz hf sz l part (by simpa [LV.pure] using hp) e5⟩
 | .agg l,cs,hp,h=>by
   simp only [ay] at h ⊢
   exact b7.iY hz hf l cs (by simpa [LV.pure] using hp) h
 | .ref b sz off len,cs,hp,_=>by simp [LV.pure] at hp
 | .iX b sz off len cap,cs,hp,_=>by simp [LV.pure] at hp
 | .aA b sz i o,cs,hp,_=>by simp [LV.pure] at hp
 | .bV c,cs,hp,h=>by
   simp only [ay] at h ⊢
   obtain⟨blk,off,cc,T,fz,part,rest,h1,h2,h3,h4,h5,h6,h7⟩:=h
   exact⟨blk,off,cc,T,fz,part,rest,h1,hz _ h2,(hf _ h2).trans h3,h4,h5,ay.iY hz hf c part (by simpa [LV.pure] using hp) h6,h7⟩
 | .cV f cap,cs,hp,h=>by
   simp only [ay] at h ⊢
   obtain⟨vs,h1,h2,h3⟩:=h
   exact⟨vs,h1,aM.iY hz hf 1 cap vs.toList (by simpa [LV.pure] using hp) h2,h3⟩
 | .a7 _,_,_,h=>by simp [ay] at h
theorem aM.iY (hz:∀ id,Z id->Z' id) (hf:∀ id,Z id->w'.heap[id]?=w.heap[id]?) (sz:Nat) :
  ∀ (l:List LV) (cs:List Value),aG l=true->aM Z μ w sz l cs->aM Z' bc w' sz l cs
 | [],cs,_,h=>by simpa [aM] using h
 | x :: xs,cs,hp,h=>by
   simp only [aM] at h ⊢
   obtain⟨c1,c2,h1,h2,h3,h4⟩:=h
   exact⟨c1,c2,h1,h2,ay.iY hz hf x c1 (pure_cons hp).1 h3,aM.iY hz hf sz xs c2 (pure_cons hp).2 h4⟩
theorem b7.iY (hz:∀ id,Z id->Z' id) (hf:∀ id,Z id->w'.heap[id]?=w.heap[id]?) :
  ∀ (l:List LV) (cs:List Value),aG l=true->b7 Z μ w l cs->b7 Z' bc w' l cs
 | [],cs,_,h=>by simpa [b7] using h
 | x :: xs,cs,hp,h=>by
   simp only [b7] at h ⊢
   obtain⟨c1,c2,h1,h2,h3,h4⟩:=h
   exact⟨c1,c2,h1,h2,ay.iY hz hf x c1 (pure_cons hp).1 h3,b7.iY hz hf xs c2 (pure_cons hp).2 h4⟩
end
theorem eP.mono (hz:∀ id,Z id->Z' id) (hm:∀ b id,μ b=some id->bc b=some id) (hf:Frame Z μ w w') {lv:LV} {v:Value}
  (h:eP Z μ w lv v):eP Z' bc w' lv v :=
 ⟨fun e=>let ⟨cs,h1,h2⟩:=h.1 e;⟨cs,h1,ay.mono hz hm hf _ _ h2⟩,fun e=>ay.mono hz hm hf _ _ (h.2 e)⟩
theorem fe.mono (hz:∀ id,Z id->Z' id) (hm:∀ b id,μ b=some id->bc b=some id) (hf:Frame Z μ w w') :
  ∀ (l:List LV) (vs:List Value),fe Z μ w l vs->fe Z' bc w' l vs
 | [],_,h=>h
 | _ :: xs,_,⟨v,iO,h1,h2,h3⟩=>⟨v,iO,h1,h2.mono hz hm hf,fe.mono hz hm hf xs iO h3⟩
theorem a9.mono (hz:∀ id,Z id->Z' id) (hm:∀ b id,μ b=some id->bc b=some id) (hf:Frame Z μ w w') {lv:LV} {v:Value}
  (h:a9 Z μ w lv v):a9 Z' bc w' lv v:=by
 cases lv with
 | a7 l=>obtain⟨vs,h1,h2⟩:=h;exact⟨vs,h1,h2.mono hz hm hf⟩
 | any=>trivial
 | _=>exact eP.mono hz hm hf h
theorem eP.iY (hz:∀ id,Z id->Z' id) (hf:∀ id,Z id->w'.heap[id]?=w.heap[id]?) {lv:LV} {v:Value} (hp:lv.pure=true)
  (h:eP Z μ w lv v):eP Z' bc w' lv v :=
 ⟨fun e=>let ⟨cs,h1,h2⟩:=h.1 e;⟨cs,h1,ay.iY hz hf _ _ hp h2⟩,fun e=>ay.iY hz hf _ _ hp (h.2 e)⟩
theorem a9.pL {lv:LV} {v:Value} (hn:∀ l,lv≠.a7 l) (h:eP Z μ w lv v):a9 Z μ w lv v:=by
 cases lv with
 | a7 l=>exact absurd rfl (hn l)
 | any=>trivial
 | _=>exact h
theorem a9.vq {lv:LV} {v:Value} (hn:∀ l,lv≠.a7 l) (ha:lv≠.any) (h:a9 Z μ w lv v):eP Z μ w lv v:=by
 cases lv with
 | a7 l=>exact absurd rfl (hn l)
 | any=>exact absurd rfl ha
 | _=>exact h
theorem LV.eF {lv:LV} (hp:lv.pure=true):lv≠.any:=by
 rintro rfl;simp [LV.pure] at hp
theorem LV.dZ {lv:LV} (hp:lv.pure=true):∀ l,lv≠.a7 l:=by
 rintro l rfl;simp [LV.pure] at hp
theorem aM.length {sz:Nat}:∀ (l:List LV) (cs:List Value),aM Z μ w sz l cs->cs.length=l.length*sz
 | [],cs,h=>by simp only [aM] at h;simp [h]
 | x :: xs,cs,h=>by
   simp only [aM] at h
   obtain⟨c1,c2,rfl,h2,_,h4⟩:=h
   have:=aM.length xs c2 h4
   simp only [List.length_append,List.length_cons,Nat.add_mul,Nat.one_mul];omega
theorem b7.length:∀ (l:List LV) (cs:List Value),b7 Z μ w l cs->cs.length=cF l
 | [],cs,h=>by simp only [b7] at h;simp [h,cF]
 | x :: xs,cs,h=>by
   simp only [b7] at h
   obtain⟨c1,c2,rfl,h2,_,h4⟩:=h
   have:=b7.length xs c2 h4
   simp only [List.length_append,cF];omega
theorem aM.get {sz:Nat}:∀ (l:List LV) (cs:List Value) (i:Nat) (x:LV),aM Z μ w sz l cs->l[i]?=some x ->
  ∃ pre ch post,cs=pre++(ch++post)/\pre.length=i*sz/\ch.length=sz/\ay Z μ w x ch /\
   ∀ y n7,ay Z μ w y n7->n7.length=sz->aM Z μ w sz (l.set i y) (pre++(n7++post))
 | [],_,_,_,_,h=>by simp at h
 | a :: xs,cs,0,x,h,hi=>by
   simp only [aM] at h
   obtain⟨c1,c2,rfl,h2,h3,h4⟩:=h
   simp only [List.getElem?_cons_zero,Option.some.injEq] at hi
   subst hi
   exact⟨[],c1,c2,by simp,by simp,h2,h3,fun y n7 hy hl=>by simpa [aM] using ⟨n7,c2,rfl,hl,hy,h4⟩⟩
 | a :: xs,cs,i+1,x,h,hi=>by
   simp only [aM] at h
   obtain⟨c1,c2,rfl,h2,h3,h4⟩:=h
   obtain⟨pre,ch,post,rfl,e2,e3,e4,e5⟩:=aM.get xs c2 i x h4 (by simpa using hi)
   refine⟨c1++pre,ch,post,by simp,by simp [h2,e2,Nat.add_mul];omega,e3,e4,fun y n7 hy hl=>?_⟩
   have:=e5 y n7 hy hl
   simp only [List.set_cons_succ,aM]
   exact⟨c1,pre++(n7++post),by simp,h2,h3,this⟩
theorem b7.get:∀ (l:List LV) (cs:List Value) (i:Nat) (x:LV),b7 Z μ w l cs->l[i]?=some x ->
  ∃ pre ch post,cs=pre++(ch++post)/\pre.length=cF (l.take i)/\ch.length=x.au/\ay Z μ w x ch /\
   ∀ y n7,ay Z μ w y n7->n7.length=y.au->b7 Z μ w (l.set i y) (pre++(n7++post))
 | [],_,_,_,_,h=>by simp at h
 | a :: xs,cs,0,x,h,hi=>by
   simp only [b7] at h
   obtain⟨c1,c2,rfl,h2,h3,h4⟩:=h
   simp only [List.getElem?_cons_zero,Option.some.injEq] at hi
   subst hi
   exact⟨[],c1,c2,by simp,by simp [cF],h2,h3,fun y n7 hy hl=>by simpa [b7] using ⟨n7,c2,rfl,hl,hy,h4⟩⟩
 | a :: xs,cs,i+1,x,h,hi=>by
   simp only [b7] at h
   obtain⟨c1,c2,rfl,h2,h3,h4⟩:=h
   obtain⟨pre,ch,post,rfl,e2,e3,e4,e5⟩:=b7.get xs c2 i x h4 (by simpa using hi)
   refine⟨c1++pre,ch,post,by simp,by simp [h2,e2,cF],e3,e4,fun y n7 hy hl=>?_⟩
   have:=e5 y n7 hy hl
   simp only [List.set_cons_succ,b7]
   exact⟨c1,pre++(n7++post),by simp,h2,h3,this⟩
theorem aM.append {sz:Nat}:∀ (l m:List LV) (cs ds:List Value),aM Z μ w sz l cs->aM Z μ w sz m ds->aM Z μ w sz (l++m) (cs++ds)
 | [],m,cs,ds,h,h'=>by simp only [aM] at h;simpa [h] using h'
 | x :: xs,m,cs,ds,h,h'=>by
   simp only [aM] at h
   obtain⟨c1,c2,rfl,h2,h3,h4⟩:=h
   have:=aM.append xs m c2 ds h4 h'
   simp only [List.cons_append,aM]
   exact⟨c1,c2++ds,by simp,h2,h3,this⟩
theorem aM.split {sz:Nat}:∀ (l m:List LV) (cs:List Value),aM Z μ w sz (l++m) cs->∃ c1 c2,cs=c1++c2/\aM Z μ w sz l c1/\aM Z μ w sz m c2
 | [],m,cs,h=>⟨[],cs,rfl,by simp [aM],h⟩
 | x :: xs,m,cs,h=>by
   simp only [List.cons_append,aM] at h
   obtain⟨c1,c2,rfl,h2,h3,h4⟩:=h
   obtain⟨d1,d2,rfl,e1,e2⟩:=aM.split xs m c2 h4
   exact⟨c1++d1,d2,by simp,by simpa [aM] using ⟨c1,d1,rfl,h2,h3,e1⟩,e2⟩
theorem aM.replicate {sz:Nat} {x:LV} {ch:List Value} (h:ay Z μ w x ch) (hl:ch.length=sz):∀ n,aM Z μ w sz (List.replicate n x) (List.replicate n ch).flatten
 | 0=>by simp [aM]
 | n+1=>by
   simp only [List.replicate_succ,aM,List.flatten_cons]
   exact⟨ch,_,rfl,hl,h,aM.replicate h hl n⟩
end
mutual
def LV.at:LV->Nat->Nat->Bool->Option LV
 | .agg l,o,n,ag=>if o=0/\cF l=n/\ag=true then some (.agg l) else q8 l o n ag
 | .any,_,_,_=>none
 | x,o,n,ag=>if o=0/\n=1/\ag=false then some x else none
def q8:List LV->Nat->Nat->Bool->Option LV
 | [],_,_,_=>none
 | x :: xs,o,n,ag=>if o<x.au then x.at o n ag else q8 xs (o-x.au) n ag
end
mutual
def LV.put:LV->Nat->LV->Option LV
 | .agg l,o,y=>if o=0/\cF l=y.au/\y.isAgg=true then some y else(uE l o y).map .agg
 | _,o,y=>if o=0/\y.au=1/\y.isAgg=false then some y else none
def uE:List LV->Nat->LV->Option (List LV)
 | [],_,_=>none
 | x :: xs,o,y=>if o<x.au then(x.put o y).map (· :: xs) else(uE xs (o-x.au) y).map (x :: ·)
end
section
variable {Z:Nat->Prop} {μ:Nat->Option Nat} {w:World}
mutual
theorem LV.ahr:∀ (x:LV) (o n:Nat) (ag:Bool) (y:LV) (cs:List Value),x.at o n ag=some y->ay Z μ w x cs->cs.length=x.au ->
  ∃ pre ch post,cs=pre++(ch++post)/\pre.length=o/\ch.length=n/\ay Z μ w y ch/\y.isAgg=ag/\y.au=n/\y≠.any/\∀ l,y≠.a7 l
 | .agg l,o,n,ag,y,cs,h,hr,hl=>by
   simp only [LV.at] at h
   split at h
   ·rename_i hc
    obtain⟨rfl,h2,rfl⟩:=hc
    simp only [Option.some.injEq] at h;subst h
    exact⟨[],cs,[],by simp,rfl,by simpa [LV.au,h2] using hl,hr,rfl,by simp [LV.au,h2],by simp,by simp⟩
   ·exact arL l o n ag y cs h (by simpa [ay] using hr)
 | .any,_,_,_,_,_,h,_,_=>by simp [LV.at] at h
 | .v x,o,n,ag,y,cs,h,hr,hl=>by
   simp only [LV.at] at h;split at h
   ·rename_i hc;obtain⟨rfl,rfl,rfl⟩:=hc;simp only [Option.some.injEq] at h;subst h
    exact zT
   ·simp at h
 | .list sz l,o,n,ag,y,cs,h,hr,hl=>by
   simp only [LV.at] at h;split at h
   ·rename_i hc;obtain⟨rfl,rfl,rfl⟩:=hc;simp only [Option.some.injEq] at h;subst h
    exact zT
   ·simp at h
 | .ref b sz off len,o,n,ag,y,cs,h,hr,hl=>by
   simp only [LV.at] at h;split at h
   ·rename_i hc;obtain⟨rfl,rfl,rfl⟩:=hc;simp only [Option.some.injEq] at h;subst h
    exact zT
   ·simp at h
 | .iX b sz off len cap,o,n,ag,y,cs,h,hr,hl=>by
   simp only [LV.at] at h;split at h
   ·rename_i hc;obtain⟨rfl,rfl,rfl⟩:=hc;simp only [Option.some.injEq] at h;subst h
    exact zT
   ·simp at h
 | .aA b sz i o',o,n,ag,y,cs,h,hr,hl=>by
   simp only [LV.at] at h;split at h
   ·rename_i hc;obtain⟨rfl,rfl,rfl⟩:=hc;simp only [Option.some.injEq] at h;subst h
    exact zT
   ·simp at h
 | .bV c,o,n,ag,y,cs,h,hr,hl=>by
   simp only [LV.at] at h;split at h
   ·rename_i hc;obtain⟨rfl,rfl,rfl⟩:=hc;simp only [Option.some.injEq] at h;subst h
    exact zT
   ·simp at h
 | .cV f cap,o,n,ag,y,cs,h,hr,hl=>by
   simp only [LV.at] at h;split at h
   ·rename_i hc;obtain⟨rfl,rfl,rfl⟩:=hc;simp only [Option.some.injEq] at h;subst h
    exact zT
   ·simp at h
 | .a7 _,_,_,_,_,_,_,hr,_=>by simp [ay] at hr
theorem arL:∀ (l:List LV) (o n:Nat) (ag:Bool) (y:LV) (cs:List Value),q8 l o n ag=some y->b7 Z μ w l cs ->
  ∃ pre ch post,cs=pre++(ch++post)/\pre.length=o/\ch.length=n/\ay Z μ w y ch/\y.isAgg=ag/\y.au=n/\y≠.any/\∀ l,y≠.a7 l
 | [],_,_,_,_,_,h,_=>by simp [q8] at h
 | x :: xs,o,n,ag,y,cs,h,hr=>by
   simp only [b7] at hr
   obtain⟨c1,c2,rfl,h2,h3,h4⟩:=hr
   simp only [q8] at h
   split at h
   ·obtain⟨pre,ch,post,rfl,e2,e3,e4⟩:=LV.ahr x o n ag y c1 h h3 h2
    exact⟨pre,ch,post++c2,by simp,e2,e3,e4⟩
   ·obtain⟨pre,ch,post,rfl,e2,e3,e4⟩:=arL xs (o-x.au) n ag y c2 h h4
    exact⟨c1++pre,ch,post,by simp,by simp;omega,e3,e4⟩
end
mutual
theorem LV.anF (y:LV) (dh:List Value) (hy:ay Z μ w y dh) (hd:dh.length=y.au):∀ (x:LV) (o:Nat) (x':LV) (cs:List Value),x.put o y=some x' ->
  ay Z μ w x cs->cs.length=x.au->∃ pre ch post,cs=pre++(ch++post)/\pre.length=o/\ch.length=dh.length/\ay Z μ w x' (pre++(dh++post))/\x'.au=x.au
 | .agg l,o,x',cs,h,hr,hl=>by
   simp only [LV.put] at h
   split at h
   ·rename_i hc
    obtain⟨rfl,h2,_⟩:=hc
    simp only [Option.some.injEq] at h;subst h
    exact⟨[],cs,[],by simp,rfl,by rw [hl,hd];simp [LV.au,h2],by simpa using hy,by simp [LV.au,h2]⟩
   ·simp only [Option.map_eq_some_iff] at h
    obtain⟨l',h1,rfl⟩:=h
    obtain⟨pre,ch,post,e1,e2,e3,e4,e5⟩:=ame y dh hy hd l o l' cs h1 (by simpa [ay] using hr)
    exact⟨pre,ch,post,e1,e2,e3,by simpa [ay] using e4,by simpa [LV.au] using e5⟩
 | .any,o,x',cs,h,hr,hl=>by
   simp only [LV.put] at h;split at h
   ·rename_i hc;obtain⟨rfl,h2,_⟩:=hc;simp only [Option.some.injEq] at h;subst h
    exact yW
   ·simp at h
 | .v x,o,x',cs,h,hr,hl=>by
   simp only [LV.put] at h;split at h
   ·rename_i hc;obtain⟨rfl,h2,_⟩:=hc;simp only [Option.some.injEq] at h;subst h
    exact yW
   ·simp at h
 | .list sz l,o,x',cs,h,hr,hl=>by
   simp only [LV.put] at h;split at h
   ·rename_i hc;obtain⟨rfl,h2,_⟩:=hc;simp only [Option.some.injEq] at h;subst h
    exact yW
   ·simp at h
 | .ref b sz off len,o,x',cs,h,hr,hl=>by
   simp only [LV.put] at h;split at h
   ·rename_i hc;obtain⟨rfl,h2,_⟩:=hc;simp only [Option.some.injEq] at h;subst h
    exact yW
   ·simp at h
 | .iX b sz off len cap,o,x',cs,h,hr,hl=>by
   simp only [LV.put] at h;split at h
   ·rename_i hc;obtain⟨rfl,h2,_⟩:=hc;simp only [Option.some.injEq] at h;subst h
    exact yW
   ·simp at h
 | .aA b sz i o',o,x',cs,h,hr,hl=>by
   simp only [LV.put] at h;split at h
   ·rename_i hc;obtain⟨rfl,h2,_⟩:=hc;simp only [Option.some.injEq] at h;subst h
    exact yW
   ·simp at h
 | .bV c,o,x',cs,h,hr,hl=>by
   simp only [LV.put] at h;split at h
   ·rename_i hc;obtain⟨rfl,h2,_⟩:=hc;simp only [Option.some.injEq] at h;subst h
    exact yW
   ·simp at h
 | .cV f cap,o,x',cs,h,hr,hl=>by
   simp only [LV.put] at h;split at h
   ·rename_i hc;obtain⟨rfl,h2,_⟩:=hc;simp only [Option.some.injEq] at h;subst h
    exact yW
   ·simp at h
 | .a7 _,_,_,_,_,hr,_=>by simp [ay] at hr
theorem ame (y:LV) (dh:List Value) (hy:ay Z μ w y dh) (hd:dh.length=y.au):∀ (l:List LV) (o:Nat) (l':List LV) (cs:List Value),uE l o y=some l' ->
  b7 Z μ w l cs->∃ pre ch post,cs=pre++(ch++post)/\pre.length=o/\ch.length=dh.length/\b7 Z μ w l' (pre++(dh++post))/\cF l'=cF l
 | [],_,_,_,h,_=>by simp [uE] at h
 | x :: xs,o,l',cs,h,hr=>by
   simp only [b7] at hr
   obtain⟨c1,c2,rfl,h2,h3,h4⟩:=hr
   simp only [uE] at h
   split at h
   ·simp only [Option.map_eq_some_iff] at h
    obtain⟨x',h1,rfl⟩:=h
    obtain⟨pre,ch,post,rfl,e2,e3,e4,e5⟩:=LV.anF y dh hy hd x o x' c1 h1 h3 h2
    refine⟨pre,ch,post++c2,by simp,e2,e3,?_,by simp [cF,e5]⟩
    simp only [b7]
    exact⟨pre++(dh++post),c2,by simp,by simp at h2 ⊢;omega,e4,h4⟩
   ·simp only [Option.map_eq_some_iff] at h
    obtain⟨xs',h1,rfl⟩:=h
    obtain⟨pre,ch,post,rfl,e2,e3,e4,e5⟩:=ame y dh hy hd xs (o-x.au) xs' c2 h1 h4
    refine⟨c1++pre,ch,post,by simp,by simp;omega,e3,?_,by simp [cF,e5]⟩
    simp only [b7]
    exact⟨c1,pre++(dh++post),by simp,h2,h3,e4⟩
end
theorem LV.afJ {x:LV} (h:x.isAgg=false):x.au=1:=by cases x<;>simp_all [LV.isAgg,LV.au]
mutual
theorem ay.one:∀ (lv:LV) (cs:List Value),ay Z μ w lv cs->∀ u∈cs,u.oneCell'=true
 | .any,_,h=>by simpa [ay] using h
 | .v x,cs,h=>by simp only [ay] at h;obtain⟨rfl,h⟩:=h;simpa using h
 | .list sz l,cs,h=>by simp only [ay] at h;obtain⟨a,len,cap,rfl,_⟩:=h;simp [Value.oneCell']
 | .agg l,cs,h=>by simp only [ay] at h;exact b7.one l cs h
 | .ref b sz off len,cs,h=>by simp only [ay] at h;rcases h with⟨rfl,_⟩ | ⟨id,cap,c,T,fz,rfl,_⟩<;>simp [Value.oneCell']
 | .iX b sz off len cap,cs,h=>by simp only [ay] at h;obtain⟨id,c,T,fz,rfl,_⟩:=h;simp [Value.oneCell']
 | .aA b sz i o,cs,h=>by simp only [ay] at h;obtain⟨id,rfl,_⟩:=h;simp [Value.oneCell']
 | .bV c,cs,h=>by simp only [ay] at h;obtain⟨blk,off,cc,T,fz,part,rest,rfl,_⟩:=h;simp [Value.oneCell']
 | .cV f cap,cs,h=>by simp only [ay] at h;obtain⟨vs,rfl,_⟩:=h;simp [Value.oneCell']
 | .a7 _,_,h=>by simp [ay] at h
theorem b7.one:∀ (l:List LV) (cs:List Value),b7 Z μ w l cs->∀ u∈cs,u.oneCell'=true
 | [],cs,h=>by simp only [b7] at h;simp [h]
 | x :: xs,cs,h=>by
   simp only [b7] at h
   obtain⟨c1,c2,rfl,h2,h3,h4⟩:=h
   intro u hu
   rcases List.mem_append.1 hu with hu | hu
   ·exact ay.one x c1 h3 u hu
   ·exact b7.one xs c2 h4 u hu
end
theorem ay.len {lv:LV} {cs:List Value} (h:ay Z μ w lv cs) (aQ:lv≠.any):cs.length=lv.au:=by
 cases lv with
 | any=>exact absurd rfl aQ
 | agg l=>simp only [ay] at h;exact b7.length l cs h
 | v x=>simp only [ay] at h;simp [h.1,LV.au]
 | list sz l=>simp only [ay] at h;obtain⟨a,len,cap,rfl,_⟩:=h;rfl
 | ref b sz off len=>simp only [ay] at h;rcases h with⟨rfl,_⟩ | ⟨id,cap,c,T,fz,rfl,_⟩<;>rfl
 | iX b sz off len cap=>simp only [ay] at h;obtain⟨id,c,T,fz,rfl,_⟩:=h;rfl
 | aA b sz i o=>simp only [ay] at h;obtain⟨id,rfl,_⟩:=h;rfl
 | bV c=>simp only [ay] at h;obtain⟨blk,off,cc,T,fz,part,rest,rfl,_⟩:=h;rfl
 | cV f cap=>simp only [ay] at h;obtain⟨vs,rfl,_⟩:=h;rfl
 | a7 l=>simp [ay] at h
theorem eP.cells {lv:LV} {v:Value} (h:eP Z μ w lv v) (aQ:lv≠.any):ay Z μ w lv v.cells.toList/\v.cells.size=lv.au /\
  (∀ u∈v.cells.toList,u.oneCell'=true)/\((lv.isAgg=true/\v=.agg v.cells)\/(lv.isAgg=false/\v.cells=#[v]/\v.oneCell'=true)):=by
 cases ha:lv.isAgg with
 | true =>
  obtain⟨cs,rfl,h2⟩:=h.1 ha
  refine⟨h2,?_,ay.one _ _ h2,.inl ⟨rfl,rfl⟩⟩
  have:=ay.len h2 aQ
  simpa [Value.cells] using this
 | false =>
  have h2:=h.2 ha
  have h3:=ay.one _ _ h2 v aO
  have hc:v.cells=#[v]:=by cases v<;>simp_all [Value.cells,Value.oneCell']
  rw [hc]
  exact⟨h2,by simp [LV.afJ ha],by simpa using h3,.inr ⟨rfl,rfl,h3⟩⟩
theorem eP.aqJ {lv:LV} {cs:List Value} (h:ay Z μ w lv cs) (aQ:lv≠.any):eP Z μ w lv (if lv.isAgg then .agg cs.toArray else cs.headD default):=by
 refine⟨fun e=>⟨cs.toArray,by simp [e],h⟩,fun e=>?_⟩
 have hl:=ay.len h aQ
 rw [LV.afJ e] at hl
 match cs,hl with
 | [x],_=>simpa [e] using h
end
end Go.Lg
namespace Go.Lg
structure a8 where
 sz:Nat
 vals:List LV
 mt:Bool
abbrev bK:=Nat->Option a8
structure XS where
 x:Nat->Prop
 y:Nat->Prop
def XS.any (X:XS) (id:Nat):Prop:=X.x id\/X.y id
instance:CoeFun XS (fun _=>Nat->Prop):=⟨XS.any⟩
def XS.no:XS:=⟨fun _=>False,fun _=>False⟩
def XS.one (i0:Nat):XS:=⟨fun k=>k=i0,fun _=>False⟩
theorem XS.acx {id:Nat}:¬ XS.no.any id:=fun h=>h.elim (fun e=>e) (fun e=>e)
theorem XS.apR {i0 id:Nat} (h:(XS.one i0).any id):id=i0:=h.elim (fun e=>e) False.elim
structure Kept (X:XS) (W w:World):Prop where
 os:w.os=W.os
 tape:w.tape=W.tape
 output:w.output=W.output
 size:W.heap.size<=w.heap.size
 block:∀ k,k<W.heap.size->¬ X k->w.heap[k]?=W.heap[k]?
 sL:∀ k,X k->∀ c T fz,W.heap[k]?=some (.cells c T fz)->∃ c',w.heap[k]?=some (.cells c' T fz)/\c'.size=c.size
theorem Kept.refl (X:XS) (W:World):Kept X W W:=⟨rfl,rfl,rfl,Nat.le_refl _,fun _ _ _=>rfl,fun _ _ c _ _ h=>⟨c,h,rfl⟩⟩
theorem Kept.below {W w:World} (h:Kept XS.no W w):RowKit.Below W.heap.size W w :=
 ⟨h.os,h.tape,h.output,h.size,fun k hk=>h.block k hk XS.acx⟩
def rn (Z:Nat->Prop) (μ:Nat->Option Nat) (w:World) (blk:a8) (id:Nat):Prop :=
 ∃ c T part rest,w.heap[id]?=some (.cells c T (0,0))/\c.toList=part++rest/\aM Z μ w blk.sz blk.vals part
structure Core (W:World) (X:XS) (Z0:Nat->Prop) (μ:Nat->Option Nat) (Z:Nat->Prop) (H:bK) (w:World):Prop where
 cd:Kept X W w
 ke:∀ id,Z id->id<w.heap.size
 iK:∀ id,Z0 id->Z id
 ki:∀ id,Z id->Z0 id\/W.heap.size<=id\/X.y id
 inj:∀ b b' id,μ b=some id->μ b'=some id->b=b'
 own:∀ b id,μ b=some id->W.heap.size<=id\/X id
 x0:∀ b id,μ b=some id->X.x id->b=0
 mC:∀ id,X id->id<W.heap.size
 x1:∀ id,X.x id->μ 0=some id
 ir:∀ b id blk,μ b=some id->H b=some blk->blk.mt=true->¬ Z id
 bR:∀ b id blk,μ b=some id->H b=some blk->blk.mt=false->Z id
 heap:∀ b id,μ b=some id->∃ blk,H b=some blk/\rn Z μ w blk id
def bp (P:Program) (T:TypeId) (n:Nat) (ag:Bool):Prop :=
 (P.info? T).map (·.size)=some n/\∃ d,P.underlying T=some d/\d.isRow=ag
def o5 (P:Program):Nat->List Field->List (Nat × Bool)->Prop
 | _,[],[]=>True
 | off,f :: fs,(n,ag) :: r=>f.offset=off/\bp P f.type n ag/\o5 P (off+n) fs r
 | _,_,_=>False
def jV (P:Program) (T:TypeId) (lay:List (Nat × Bool)):Prop :=
 ∃ fields,P.underlying T=some (.struct fields)/\o5 P 0 fields.toList lay/\∀ n∈lay,0<n.1
def lay (x:LV):Nat × Bool:=(x.au,x.isAgg)
section
variable {P:Program} {Z:Nat->Prop} {μ:Nat->Option Nat} {w:World}
theorem abm {blk off:Nat} {c:Array Value} {T:TypeId} {fz:Nat × Nat} {part rest:List Value}
  (h:w.heap[blk]?=some (.cells c T fz)) (hd:c.toList.drop off=part++rest):w.rangeAt blk off part:=by
 intro j v hj
 rw [cell_of_row w blk (off+j) c T fz h]
 have h1:(c.toList.drop off)[j]?=some v:=by
  rw [hd,List.getElem?_append_left (List.getElem?_eq_some_iff.1 hj).1];exact hj
 rw [List.getElem?_drop] at h1
 simpa using h1
theorem aqq {T:TypeId} {y:LV} {blk off:Nat} {c:Array Value} {U:TypeId} {fz:Nat × Nat} {part rest:List Value}
  (ht:bp P T y.au y.isAgg) (h:w.heap[blk]?=some (.cells c U fz)) (hd:c.toList.drop off=part++rest)
  (hy:ay Z μ w y part) (aQ:y≠.any) :
  ∃ v,(Instr.loadAt T (.pointer (some ⟨blk,off,none⟩))).run P w=.ok v w/\eP Z μ w y v:=by
 have hr:=abm h hd
 have hl:=ay.len hy aQ
 obtain⟨hi,d,hu,fH⟩:=ht
 refine⟨_,?_,eP.aqJ hy aQ⟩
 cases ha:y.isAgg with
 | true =>
  have:=run_loadAt_mid (P:=P) w blk off T part d hr hu (by rw [fH,ha]) (by rw [hi,hl])
  simpa using this
 | false =>
  rw [LV.afJ ha] at hl
  match part,hl,hr with
  | [x],_,hr =>
   have hx:=hr 0 x rfl
   have hag:(isAgg T).run P w=.ok false w:=by
    unfold isAgg
    rw [Sem.run_bind,run_underlying hu w]
    rw [ha] at fH
    cases d<;>simp_all [TypeDesc.isRow]
   simp [Instr.loadAt,Instr.sureAddr,loadVar,Sem.run_bind,hag,Nat.add_zero] at hx ⊢
   simp [hx]
theorem aly:∀ (fs:List Field) (ls:List LV) (off k:Nat) (f:Field) (x:LV),o5 P off fs (ls.map lay)->fs[k]?=some f->ls[k]?=some x ->
  f.offset=off+cF (ls.take k)/\bp P f.type x.au x.isAgg
 | [],_,_,_,_,_,_,h,_=>by simp at h
 | _ :: _,[],_,_,_,_,_,_,h=>by simp at h
 | f :: fs,y :: ys,off,0,g,x,h,h1,h2=>by
   simp only [List.map_cons,lay,o5] at h
   simp only [List.getElem?_cons_zero,Option.some.injEq] at h1 h2
   subst h1 h2
   exact⟨by simp [cF,h.1],h.2.1⟩
 | f :: fs,y :: ys,off,k+1,g,x,h,h1,h2=>by
   simp only [List.map_cons,lay,o5] at h
   have:=aly fs ys (off+y.au) k g x h.2.2 (by simpa using h1) (by simpa using h2)
   refine⟨?_,this.2⟩
   rw [this.1];simp [cF];omega
theorem ajV:∀ (fs:List Field) (ls:List (Nat × Bool)) (off:Nat),o5 P off fs ls->fs.length=ls.length
 | [],[],_,_=>rfl
 | [],_ :: _,_,h=>by simp [o5] at h
 | _ :: _,[],_,h=>by simp [o5] at h
 | f :: fs,(n,ag) :: r,off,h=>by
   simp only [o5] at h
   simp [ajV fs r _ h.2.2]
theorem asq {T:TypeId} {n:Nat} {ag:Bool} (ht:bp P T n ag):(isAgg T).run P w=.ok ag w:=by
 obtain⟨hi,d,hd,rfl⟩:=ht
 unfold isAgg
 rw [Sem.run_bind,run_underlying hd w]
 cases d<;>simp [TypeDesc.isRow]
theorem run_sizeOf {T:TypeId} {n:Nat} {ag:Bool} (ht:bp P T n ag):(sizeOf T).run P w=.ok n w:=by
 obtain⟨hi,_⟩:=ht
 cases hq:P.info? T with
 | none=>simp [hq] at hi
 | some i =>
  simp only [hq,Option.map_some,Option.some.injEq] at hi
  subst hi
  simp [sizeOf,typeInfo,hq]
theorem apk {T:TypeId} {x:LV} (ht:bp P T x.au x.isAgg) {cs:Array Value} {pre ch post:List Value} (e1:cs.toList=pre++(ch++post))
  (h:ay Z μ w x ch) (aQ:x≠.any):∃ u,(part T cs pre.length).run P w=.ok u w/\eP Z μ w x u:=by
 have e3:=ay.len h aQ
 have hcs:cs=(pre++(ch++post)).toArray:=by apply Array.ext';simp [e1]
 refine⟨_,?_,eP.aqJ h aQ⟩
 unfold part
 rw [Sem.run_bind,asq ht]
 cases ha:x.isAgg with
 | true =>
  simp only [Result.andThen_ok,if_true,Sem.run_bind,run_sizeOf ht,Sem.run_pure]
  congr 2
  apply Array.ext'
  rw [hcs,<-e3]
  simp
 | false =>
  rw [LV.afJ ha] at e3
  match ch,e3 with
  | [y],_ =>
   have:cs[pre.length]?=some y:=by rw [hcs];simp
   simp [this]
theorem ayO {T:TypeId} {fs:List LV} {k:Nat} {x:LV} {v:Value} (ht:jV P T (fs.map lay)) (hx:fs[k]?=some x) (aQ:x≠.any)
  (h:eP Z μ w (.agg fs) v):∃ u,(Instr.field T v k).run P w=.ok u w/\eP Z μ w x u:=by
 obtain⟨fields,hu,hl,_⟩:=ht
 obtain⟨cs,rfl,hc⟩:=h.1 rfl
 simp only [ay] at hc
 obtain⟨pre,ch,post,e1,e2,e3,e4,_⟩:=b7.get fs cs.toList k x hc hx
 have hk:k<fields.toList.length:=by
  rw [ajV _ _ _ hl,List.length_map];exact(List.getElem?_eq_some_iff.1 hx).1
 obtain⟨f,hfk⟩:∃ f,fields.toList[k]?=some f:=⟨_,List.getElem?_eq_getElem hk⟩
 obtain⟨g1,hty⟩:=aly fields.toList fs 0 k f x hl hfk hx
 have ajG:fields[k]?=some f:=by rw [<-Array.getElem?_toList];exact hfk
 obtain⟨u,ri,hu3⟩:=apk (T:=f.type) hty e1 e4 aQ
 refine⟨u,?_,hu3⟩
 have:f.offset=pre.length:=by omega
 simp only [Instr.field,Sem.run_bind,run_underlying hu,Result.andThen_ok,ajG,asAgg,Sem.run_pure,this,ri]
def l7:List (Nat × Bool)->Nat
 | []=>0
 | x :: xs=>x.1+l7 xs
theorem aeh:∀ (fs:List LV) (k:Nat),l7 ((fs.map lay).take k)=cF (fs.take k)
 | [],k=>by simp [l7,cF]
 | x :: xs,0=>by simp [l7,cF]
 | x :: xs,k+1=>by simp [l7,cF,lay,<-aeh xs k]
theorem apE:∀ (fs:List Field) (ls:List (Nat × Bool)) (off k:Nat) (f:Field) (x:Nat × Bool),o5 P off fs ls->fs[k]?=some f->ls[k]?=some x ->
  f.offset=off+l7 (ls.take k)/\bp P f.type x.1 x.2
 | [],_,_,_,_,_,_,h,_=>by simp at h
 | _ :: _,[],_,_,_,_,_,_,h=>by simp at h
 | f :: fs,(n,ag) :: ys,off,0,g,x,h,h1,h2=>by
   simp only [o5] at h
   simp only [List.getElem?_cons_zero,Option.some.injEq] at h1 h2
   subst h1 h2
   exact⟨by simp [l7,h.1],h.2.1⟩
 | f :: fs,(n,ag) :: ys,off,k+1,g,x,h,h1,h2=>by
   simp only [o5] at h
   have:=apE fs ys (off+n) k g x h.2.2 (by simpa using h1) (by simpa using h2)
   refine⟨?_,this.2⟩
   rw [this.1];simp [l7];omega
theorem alc {T:TypeId} {ls:List (Nat × Bool)} {k:Nat} (ht:jV P T ls) (mK:k<ls.length) (b o:Nat) :
  (Instr.fieldAt T (.pointer (some ⟨b,o,none⟩)) k).run P w=.ok (.pointer (some ⟨b,o+l7 (ls.take k),none⟩)) w:=by
 obtain⟨fields,hu,hl,kI⟩:=ht
 have hk:k<fields.toList.length:=by rw [ajV _ _ _ hl];exact mK
 obtain⟨f,hfk⟩:∃ f,fields.toList[k]?=some f:=⟨_,List.getElem?_eq_getElem hk⟩
 have hx:ls[k]?=some ls[k]:=List.getElem?_eq_getElem mK
 obtain⟨g1,hty⟩:=apE fields.toList ls 0 k f _ hl hfk hx
 have ajG:fields[k]?=some f:=by rw [<-Array.getElem?_toList];exact hfk
 have hp:0<ls[k].1:=kI _ (List.mem_of_getElem? hx)
 have aQ:¬ ls[k].1=0:=by omega
 simp only [Instr.fieldAt,Sem.run_bind,run_underlying hu,Result.andThen_ok,ajG,Instr.sureAddr,Sem.run_pure,fieldPlace,run_sizeOf hty,Sem.run_ite,if_neg aQ,g1,Nat.zero_add,Addr.add_mid]
end
end Go.Lg
namespace Go.Lg
def dk (op:BinOp) (k:IntKind) (a b:Int):Option Value :=
 match op with
 | .add=>some (.int k (k.wrap (a+b)))
 | .sub=>some (.int k (k.wrap (a-b)))
 | .mul=>some (.int k (k.wrap (a*b)))
 | .quo=>if b=0 then none else some (.int k (k.wrap (a.tdiv b)))
 | .rem=>if b=0 then none else some (.int k (a.tmod b))
 | .and=>some (.int k (k.wrap (BitVec.ofInt k.bits a &&& BitVec.ofInt k.bits b).toNat))
 | .or=>some (.int k (k.wrap (BitVec.ofInt k.bits a ||| BitVec.ofInt k.bits b).toNat))
 | .eql=>some (.bool (a==b))
 | .neq=>some (.bool (a != b))
 | .lss=>some (.bool (a<b))
 | .leq=>some (.bool (a<=b))
 | .gtr=>some (.bool (a > b))
 | .geq=>some (.bool (a>=b))
 | _=>none
def nD (op:BinOp) (k:IntKind) (a b:Int):Option Value :=
 if b<0 then none else
 match op with
 | .shl=>some (.int k (k.wrap (a*2 ^ min b.toNat k.bits)))
 | .shr=>some (.int k (a.fdiv (2 ^ min b.toNat k.bits)))
 | _=>none
def cU (P:Program) (T:TypeId) (z:LV):Prop :=
 ∃ i zv,P.info? T=some i/\i.zero=some zv/\z.pure=true/\∀ (Z:Nat->Prop) (μ:Nat->Option Nat) (w:World),ay Z μ w z zv.cells.toList
def iD (zs:List LV) (ps:List (Nat × LV)):List LV:=ps.foldl (fun acc p=>acc.set p.1 p.2) zs
inductive aB (P:Program) (H:bK) (ρ:Operand->LV):Op->LV->Prop
 | move (x):aB P H ρ (.move x) (ρ x)
 | assign (x):aB P H ρ (.assign x) (ρ x)
 | pick {c x y t} (h:ρ c=.v (.bool t)):aB P H ρ (.pick c x y) (if t then ρ x else ρ y)
 | bin {op T x y U k a b r} (hx:ρ x=.v (.int k a)) (hy:ρ y=.v (.int k b)) (h:dk op k a b=some r):aB P H ρ (.binOp op T x y U) (.v r)
 | sh {op T x y U k k' a b r} (hx:ρ x=.v (.int k a)) (hy:ρ y=.v (.int k' b)) (h:nD op k a b=some r):aB P H ρ (.binOp op T x y U) (.v r)
 | beq {T x y U a b} (hx:ρ x=.v (.bool a)) (hy:ρ y=.v (.bool b)) (hT:P.underlying T=some .bool):aB P H ρ (.binOp .eql T x y U) (.v (.bool (a==b)))
 | bne {T x y U a b} (hx:ρ x=.v (.bool a)) (hy:ρ y=.v (.bool b)) (hT:P.underlying T=some .bool):aB P H ρ (.binOp .neq T x y U) (.v (.bool (!(a==b))))
 | not {T x a} (hx:ρ x=.v (.bool a)):aB P H ρ (.unOp .not T x) (.v (.bool !a))
 | neg {T x k a} (hx:ρ x=.v (.int k a)):aB P H ρ (.unOp .neg T x) (.v (.int k (k.wrap (0-a))))
 | conv {S D x k k' n d} (hS:P.underlying S=some d) (hD:P.underlying D=some (.int k)) (hx:ρ x=.v (.int k' n)):aB P H ρ (.convert S D x) (.v (.int k (k.wrap n)))
 | extract {t i l r} (ht:ρ t=.a7 l) (hr:l[i]?=some r) (aQ:∀ m,r≠.a7 m):aB P H ρ (.extract t i) r
 | field {T x k fs r} (hx:ρ x=.agg fs) (hT:jV P T (fs.map lay)) (hr:fs[k]?=some r) (aQ:r.pure=true):aB P H ρ (.field T x k) r
 | wv {T p k fs r} (hp:ρ p=.bV (.agg fs)) (hT:jV P T (fs.map lay)) (hr:fs[k]?=some r):aB P H ρ (.fieldAddr T p k) (.bV r)
 | yj {T p k b sz i o ls} (hp:ρ p=.aA b sz i o) (hT:jV P T ls) (hk:k<ls.length):aB P H ρ (.fieldAddr T p k) (.aA b sz i (o+l7 (ls.take k)))
 | wC {T p c} (hp:ρ p=.bV c) (hT:bp P T c.au c.isAgg) (hc:c.pure=true):aB P H ρ (.load T p) c
 | fu {T p b sz i o blk x r n ag} (hp:ρ p=.aA b sz i o) (hb:H b=some blk) (hs:blk.sz=sz) (hi:blk.vals[i]?=some x) (hx:x.au=sz) (hr:x.at o n ag=some r)
   (hT:bp P T n ag):aB P H ρ (.load T p) r
 | acn {x b sz i o} (hx:ρ x=.aA b sz i o):aB P H ρ (.nilCheck x) (.aA b sz i o)
 | yf {T E x i n fs k m r sz ag} (hx:ρ x=.agg fs) (hT:P.underlying T=some (.array n E)) (hE:bp P E sz ag) (hf:fs.map lay=List.replicate n (sz,ag)) (hi:ρ i=.v (.int k m)) (h0:0<=m)
   (hr:fs[m.toNat]?=some r) (hp:r.pure=true):aB P H ρ (.index T x i) r
 | xz {T E x j n b sz i o k m es ag} (hx:ρ x=.aA b sz i o) (hT:P.underlying T=some (.array n E)) (hE:bp P E es ag) (hi:ρ j=.v (.int k m)) (h0:0<=m) (hm:m<n) :
   aB P H ρ (.indexAddr T x j) (.aA b sz i (o+m.toNat*es))
 | yC {T E x i n fs k m r sz ag} (hx:ρ x=.bV (.agg fs)) (hT:P.underlying T=some (.array n E)) (hE:bp P E sz ag) (hf:fs.map lay=List.replicate n (sz,ag)) (hi:ρ i=.v (.int k m)) (h0:0<=m)
   (hr:fs[m.toNat]?=some r):aB P H ρ (.indexAddr T x i) (.bV r)
 | xH {T E zs ps n sz ag} (hT:P.underlying T=some (.array n E)) (hE:bp P E sz ag) (hf:∀ z∈zs,lay z=(sz,ag)) (hz:cU P T (.agg zs))
   (hp:∀ p∈ps.toList,∃ z,zs[p.1]?=some z/\lay (ρ p.2)=lay z/\ρ p.2≠.any/\∀ m,ρ p.2≠.a7 m) :
   aB P H ρ (.build T ps) (.agg (iD zs (ps.toList.map fun p=>(p.1,ρ p.2))))
 | acU {x c} (hx:ρ x=.bV c):aB P H ρ (.nilCheck x) (.bV c)
 | lV {T E x i sz l k n r ag} (hx:ρ x=.list sz l) (hT:P.underlying T=some (.slice E)) (hE:bp P E sz ag) (hi:ρ i=.v (.int k n)) (h0:0<=n)
   (hr:l[n.toNat]?=some r) (hc:r.au=sz):aB P H ρ (.indexAddr T x i) (.bV r)
 | tB {T E x i b sz off len k n ag} (hx:ρ x=.ref b sz off len) (hT:P.underlying T=some (.slice E)) (hE:bp P E sz ag) (hi:ρ i=.v (.int k n)) (h0:0<=n)
   (hn:n<len):aB P H ρ (.indexAddr T x i) (.aA b sz (off+n.toNat) 0)
 | aaG {T E x sz ag l a h la ha} (hx:ρ x=.list sz l) (hT:P.underlying T=some (.slice E)) (hE:bp P E sz ag) (bX:∀ y,la=some y->∃ k,ρ y=.v (.int k (a:Nat)))
   (nL:la=none->a=0) (gj:∀ y,ha=some y->∃ k,ρ y=.v (.int k (h:Nat))) (rM:ha=none->h=l.length) (h1:a<=h) (h2:h<=l.length) :
   aB P H ρ (.slice T x la ha none) (.list sz ((l.take h).drop a))
 | th {T E x b sz off len ag a h la ha} (hx:ρ x=.ref b sz off len) (hT:P.underlying T=some (.slice E)) (hE:bp P E sz ag) (bX:∀ y,la=some y->∃ k,ρ y=.v (.int k (a:Nat)))
   (nL:la=none->a=0) (gj:∀ y,ha=some y->∃ k,ρ y=.v (.int k (h:Nat))) (rM:ha=none->h=len) (h1:a<=h) (h2:h<=len) (kI:a<len) :
   aB P H ρ (.slice T x la ha none) (.ref b sz (off+a) (h-a))
 | adp {T E x b sz off len ag a h mx la z zm k k'} (hx:ρ x=.ref b sz off len) (hT:P.underlying T=some (.slice E)) (hE:bp P E sz ag) (bX:∀ y,la=some y->∃ k,ρ y=.v (.int k (a:Nat)))
   (nL:la=none->a=0) (gj:ρ z=.v (.int k (h:Nat))) (hmx:ρ zm=.v (.int k' (mx:Nat))) (h1:a<=h) (h2:h<=mx) (h3:mx<=len) (kI:a<mx) :
   aB P H ρ (.slice T x la (some z) (some zm)) (.ref b sz (off+a) (h-a))
 | xb {T x sz l d as} (hx:ρ x=.list sz l) (has:as=#[T]) (hT:P.underlying T=some (.slice d)):aB P H ρ (.call ⟨.builtin .len,#[x],as⟩) (.v (.int .i64 (l.length:Nat)))
 | xR {T x b sz off len d as} (hx:ρ x=.ref b sz off len) (has:as=#[T]) (hT:P.underlying T=some (.slice d)):aB P H ρ (.call ⟨.builtin .len,#[x],as⟩) (.v (.int .i64 (len:Nat)))
 | xL {T x d as} (hx:ρ x=.v (.slice none 0 0)) (has:as=#[T]) (hT:P.underlying T=some (.slice d)):aB P H ρ (.call ⟨.builtin .len,#[x],as⟩) (.v (.int .i64 (0:Nat)))
 | ago {T x d as} (hx:ρ x=.v (.slice none 0 0)) (has:as=#[T]) (hT:P.underlying T=some (.slice d)):aB P H ρ (.call ⟨.builtin .cap,#[x],as⟩) (.v (.int .i64 (0:Nat)))
 | ahz {T E x ha k sz ag} (hx:ρ x=.v (.slice none 0 0)) (hT:P.underlying T=some (.slice E)) (hE:bp P E sz ag) (hh:ρ ha=.v (.int k (0:Nat))):aB P H ρ (.slice T x none (some ha) none) (.v (.slice none 0 0))
 | y5 {T x b sz off len cp d as} (hx:ρ x=.iX b sz off len cp) (has:as=#[T]) (hT:P.underlying T=some (.slice d)):aB P H ρ (.call ⟨.builtin .len,#[x],as⟩) (.v (.int .i64 (len:Nat)))
 | adv {T x b sz off len cp d as} (hx:ρ x=.iX b sz off len cp) (has:as=#[T]) (hT:P.underlying T=some (.slice d)):aB P H ρ (.call ⟨.builtin .cap,#[x],as⟩) (.v (.int .i64 (cp:Nat)))
 | aa7 {T E x b sz off len cp ag a h la ha} (hx:ρ x=.iX b sz off len cp) (hT:P.underlying T=some (.slice E)) (hE:bp P E sz ag) (bX:∀ y,la=some y->∃ k,ρ y=.v (.int k (a:Nat)))
   (nL:la=none->a=0) (gj:∀ y,ha=some y->∃ k,ρ y=.v (.int k (h:Nat))) (rM:ha=none->h=len) (h1:a<=h) (h2:h<=cp) (kI:a<cp) :
   aB P H ρ (.slice T x la ha none) (.iX b sz (off+a) (h-a) (cp-a))
 | min2 {x y k a b as} (hx:ρ x=.v (.int k a)) (hy:ρ y=.v (.int k b)):aB P H ρ (.call ⟨.builtin .min,#[x,y],as⟩) (.v (.int k (if b<a then b else a)))
 | max2 {x y k a b as} (hx:ρ x=.v (.int k a)) (hy:ρ y=.v (.int k b)):aB P H ρ (.call ⟨.builtin .max,#[x,y],as⟩) (.v (.int k (if b > a then b else a)))
 | aeW {T x i s k n b} (hx:ρ x=.v (.string s)) (hT:P.underlying T=some .string) (hi:ρ i=.v (.int k n)) (h0:0<=n) (hb:s[n.toNat]?=some b):aB P H ρ (.index T x i) (.v (.int .u8 b.toNat))
 | yg {f xs as fn e} {vs:List Value} {r1 r2} (hf:P.funcs[f]?=some fn) (nR:(fn.name== "runtime.NumGoroutine")=false) (hb:fn.body.isNone=true) (hn:Extern.findNext fn=none) (he:Extern.find fn=some e)
   (hx:xs.toList.map ρ=vs.map LV.v) (hr:∀ w:World,(e vs.toArray).run P w=.ok (.tuple #[r1,r2]) w) (h1:r1.oneCell'=true) (h2:r2.oneCell'=true) :
   aB P H ρ (.call ⟨.value (.func f),xs,as⟩) (.a7 [.v r1,.v r2])
 | wb {T x y U s t} (hx:ρ x=.v (.string s)) (hy:ρ y=.v (.string t)) (h:s.size+t.size<=9223372036854775807):aB P H ρ (.binOp .add T x y U) (.v (.string (s++t)))
 | wL {T x y U s t} (hx:ρ x=.v (.string s)) (hy:ρ y=.v (.string t)):aB P H ρ (.binOp .eql T x y U) (.v (.bool (s.toList==t.toList)))
 | vU {T x y U d} (hx:ρ x=.v (.slice none 0 0)) (hy:ρ y=.v (.slice none 0 0)) (hT:P.underlying T=some (.slice d)):aB P H ρ (.binOp .eql T x y U) (.v (.bool true))
 | wY {T x y U E a0 a1 a2 a3 b0 b1 b2 b3} (hx:ρ x=.agg [.v (.bool a0),.v (.bool a1),.v (.bool a2),.v (.bool a3)]) (hy:ρ y=.agg [.v (.bool b0),.v (.bool b1),.v (.bool b2),.v (.bool b3)]) (hT:P.underlying T=some (.array 4 E))
   (hE:P.underlying E=some .bool) (hs:bp P E 1 false) (hd:2<=P.depth):aB P H ρ (.binOp .eql T x y U) (.v (.bool (a0==b0 && (a1==b1 && (a2==b2 && a3==b3)))))
 | vT {T x y U sz v l d} (hx:ρ x=.list sz (v :: l)) (hy:ρ y=.v (.slice none 0 0)) (hT:P.underlying T=some (.slice d)):aB P H ρ (.binOp .eql T x y U) (.v (.bool false))
 | ahf {S D E x b off len blk} {ns:List Nat} (hS:P.underlying S=some (.slice E)) (hE:P.underlying E=some (.int .u8)) (hD:P.underlying D=some .string) (hx:ρ x=.ref b 1 off len) (hb:H b=some blk) (hs:blk.sz=1)
   (hv:(blk.vals.drop off).take len=ns.map (fun n=>LV.v (.int .u8 (n:Nat)))) (hl:off+len<=blk.vals.length) :
   aB P H ρ (.convert S D x) (.v (.string ((ns.map Int.ofNat).foldl (fun r n=>r.push (UInt8.ofNat n.toNat)) ByteArray.empty)))
 | build {T zs ps} (hT:jV P T (zs.map lay)) (hz:cU P T (.agg zs)) (hp:∀ p∈ps.toList,∃ z,zs[p.1]?=some z/\lay (ρ p.2)=lay z/\ρ p.2≠.any/\∀ m,ρ p.2≠.a7 m) :
   aB P H ρ (.build T ps) (.agg (iD zs (ps.toList.map fun p=>(p.1,ρ p.2))))
section
variable {P:Program} {Z:Nat->Prop} {μ:Nat->Option Nat} {w:World}
theorem a9.int {k:IntKind} {n:Int}:a9 Z μ w (.v (.int k n)) (.int k n):=⟨by simp [LV.isAgg],fun _=>by simp [ay,Value.oneCell']⟩
theorem a9.bool {b:Bool}:a9 Z μ w (.v (.bool b)) (.bool b):=⟨by simp [LV.isAgg],fun _=>by simp [ay,Value.oneCell']⟩
theorem a9.dP {x v:Value} (h:a9 Z μ w (.v x) v):v=x:=by
 have:=h.2 rfl
 simp only [ay] at this
 simpa using this.1
theorem a9.v {x:Value} (h:x.oneCell'=true):a9 Z μ w (.v x) x:=⟨by simp [LV.isAgg],fun _=>by simp [ay,h]⟩
theorem axb {op:BinOp} {k:IntKind} {a b:Int} {r:Value} (h:dk op k a b=some r):r.oneCell'=true:=by
 cases op<;>simp [dk] at h<;>first | (subst h;rfl) | (obtain⟨_,rfl⟩:=h;rfl)
theorem at8 {op:BinOp} {k:IntKind} {a b:Int} {r:Value} (h:nD op k a b=some r):r.oneCell'=true:=by
 unfold nD at h
 split at h
 ·simp at h
 ·cases op<;>simp at h<;>(subst h;rfl)
theorem aBo {op:BinOp} {T:TypeId} {x y:Operand} {k:IntKind} {a b:Int} {r:Value} (h:dk op k a b=some r) :
  (do eqGuard op T x y (.int k a) (.int k b);binOp op T (.int k a) (.int k b):Sem Value).run P w=.ok r w:=by
 cases op<;>simp [dk] at h<;>simp [eqGuard,binOp,Op.intArith,Op.intDiv,Op.intBits,Op.intCmp] <;>
  first
   | (subst h;rfl)
   | (obtain⟨h1,rfl⟩:=h;simp [h1])
   | skip
theorem awA {op:BinOp} {T:TypeId} {x y:Operand} {k k':IntKind} {a b:Int} {r:Value} (h:nD op k a b=some r) :
  (do eqGuard op T x y (.int k a) (.int k' b);binOp op T (.int k a) (.int k' b):Sem Value).run P w=.ok r w:=by
 unfold nD at h
 split at h
 ·simp at h
 ·rename_i hb
  cases op<;>simp at h<;>subst h<;>simp [eqGuard,binOp,Op.shift,hb]
theorem akM (off:Nat):∀ (vs:List Value) (i:Nat) (cells:Array Value),off+i+vs.length<=cells.size ->
  ((vs.zipIdx i).foldl (fun cs p=>cs.setIfInBounds (off+p.2) p.1) cells).toList=cells.toList.take (off+i)++(vs++cells.toList.drop (off+i+vs.length))
 | [],i,cells,h=>by simp
 | v :: vs,i,cells,h=>by
   simp only [List.length_cons] at h
   simp only [List.zipIdx_cons,List.foldl_cons]
   rw [akM off vs (i+1) _ (by rw [Array.size_setIfInBounds];omega)]
   have e:off+(i+1)=(off+i)+1:=by omega
   rw [e,Array.toList_setIfInBounds,List.take_succ_eq_append_getElem bm,List.getElem_set_self,List.take_set_of_le J,List.drop_set_of_lt J]
   have e2:off+i+1+vs.length=off+i+(vs.length+1):=by omega
   rw [e2]
   simp
theorem ad3 {ls:List (Nat × Bool)} (place:Nat->Option (Nat × Nat)) (fv:∀ k n,ls[k]?=some n->place k=some (l7 (ls.take k),n.1)) :
  ∀ (ps:List (Nat × Value)) (qs:List (Nat × LV)) (zs:List LV) (cells:Array Value),zs.map lay=ls->b7 Z μ w zs cells.toList ->
   ps.map (·.1)=qs.map (·.1)->(∀ (j:Nat) (p:Nat × Value) (q:Nat × LV),ps[j]?=some p->qs[j]?=some q->eP Z μ w q.2 p.2/\q.2≠LV.any) ->
   (∀ q∈qs,∃ n,ls[q.1]?=some n/\lay q.2=n) ->
   ∃ cs,Instr.fill place cells ps=some cs/\b7 Z μ w (iD zs qs) cs.toList
 | [],[],zs,cells,_,hr,_,_,_=>⟨cells,rfl,hr⟩
 | [],_ :: _,_,_,_,_,h,_,_=>by simp at h
 | _ :: _,[],_,_,_,_,h,_,_=>by simp at h
 | (k,v) :: ps,(k',x) :: qs,zs,cells,hz,hr,hk,hv,hq=>by
   simp only [List.map_cons,List.cons.injEq] at hk
   obtain⟨rfl,hk⟩:=hk
   obtain⟨n,hn,hxn⟩:=hq (k,x) aO
   obtain⟨hxv,hxa⟩:=hv 0 (k,v) (k,x) rfl rfl
   obtain⟨c1,c2,c3,_⟩:=hxv.cells hxa
   have hn':=hn
   simp only at hn hxn
   rw [<-hz,List.getElem?_map] at hn
   obtain⟨z,hzk,hzn⟩:∃ z,zs[k]?=some z/\lay z=n:=by
    cases h:zs[k]? with
    | none=>simp [h] at hn
    | some z=>exact⟨z,rfl,by simpa [h] using hn⟩
   obtain⟨pre,ch,post,e1,e2,e3,e4,e5⟩:=b7.get zs cells.toList k z hr hzk
   have bD:v.cells.size=n.1:=by rw [c2,<-hxn];rfl
   have aDh:ch.length=n.1:=by rw [e3,<-hzn];rfl
   have pZ:l7 (ls.take k)=pre.length:=by rw [<-hz,aeh,e2]
   have hcs:cells.size=pre.length+(ch.length+post.length):=by
    rw [<-Array.length_toList,e1];simp
   simp only [Instr.fill,fv k n hn',pZ]
   have atW:¬ ((decide (v.cells.size≠n.1) || decide (pre.length+v.cells.size > cells.size))=true):=by
    simp only [Bool.or_eq_true,decide_eq_true_eq,not_or,Decidable.not_not]
    omega
   rw [if_neg atW]
   have hf:=akM pre.length v.cells.toList 0 cells bm
   have kB:(v.cells.zipIdx.foldl (fun cs p=>cs.setIfInBounds (pre.length+p.2) p.1) cells).toList=pre++(v.cells.toList++post):=by
    rw [<-Array.foldl_toList,Array.toList_zipIdx]
    rw [hf,e1]
    simp only [Nat.add_zero,Array.length_toList,List.take_left]
    rw [List.drop_append,List.drop_of_length_le J,List.nil_append]
    congr 2
    rw [List.drop_append,List.drop_of_length_le J,List.nil_append]
    have:pre.length+v.cells.size-pre.length-ch.length=0:=by omega
    rw [this];rfl
   have pe:=e5 x v.cells.toList c1 (by simp [c2])
   rw [<-kB] at pe
   refine ad3 place fv ps qs (zs.set k x) _ ?_ pe hk (fun j p q hp hq=>hv (j+1) p q (by simpa using hp) (by simpa using hq)) (fun q h=>hq q (by simp [h]))
   rw [List.map_set,hz,hxn]
   refine List.ext_getElem? fun j=>?_
   by_cases hj:k=j
   ·subst hj;rw [List.getElem?_set_self (List.getElem?_eq_some_iff.1 hn').1,hn']
   ·rw [List.getElem?_set_ne hj]
end
end Go.Lg
namespace Go.Lg
section
variable {P:Program} {Z:Nat->Prop} {μ:Nat->Option Nat} {w:World} {H:bK} {ρ:Operand->LV} {a:Act}
theorem fe.get:∀ (l:List LV) (vs:List Value) (i:Nat) (x:LV),fe Z μ w l vs->l[i]?=some x->∃ v,vs[i]?=some v/\eP Z μ w x v
 | [],_,_,_,_,h=>by simp at h
 | y :: ys,_,0,x,⟨v,iO,e,h1,h2⟩,hi=>by
   simp only [List.getElem?_cons_zero,Option.some.injEq] at hi
   subst hi e
   exact⟨v,by simp,h1⟩
 | y :: ys,_,i+1,x,⟨v,iO,e,h1,h2⟩,hi=>by
   subst e
   have:=fe.get ys iO i x h2 (by simpa using hi)
   simpa using this
theorem aiP {sz:Nat} {l:List LV} {i:Nat} {r:LV} {off:Nat} {c:Array Value} {part rest:List Value}
  (hd:c.toList.drop off=part++rest) (hr:aM Z μ w sz l part) (hi:l[i]?=some r) :
  ∃ ch post,c.toList.drop (off+i*sz)=ch++post/\ch.length=sz/\ay Z μ w r ch:=by
 obtain⟨pre,ch,post,e1,e2,e3,e4,_⟩:=aM.get l part i r hr hi
 refine⟨ch,post++rest,?_,e3,e4⟩
 rw [<-List.drop_drop,hd,e1,<-e2]
 simp
theorem run_indexAt_slice {T E:TypeId} {sz:Nat} {ag:Bool} (hT:P.underlying T=some (.slice E)) (hE:bp P E sz ag) (k:IntKind) (n:Int) (len cap b off:Nat) (h0:0<=n) (h1:n<len) :
  (Instr.indexAt T (.slice (some ⟨b,off,none⟩) len cap) (.int k n)).run P w=.ok (.pointer (some ⟨b,off+n.toNat*sz,none⟩)) w:=by
 have h2:(0<=n/\n<(len:Int)):=⟨h0,h1⟩
 simp [Instr.indexAt,asIntOf,run_underlying hT,run_sizeOf hE,h2,Addr.add_mid]
theorem run_equal_bool {T:TypeId} (hT:P.underlying T=some .bool) (i j:Bool):(Op.equal T (.bool i) (.bool j)).run P w=.ok (i==j) w:=by
 have h:∀ d,(Op.equalIn (d+1) T (.bool i) (.bool j)).run P w=.ok (i==j) w:=fun d=>by
  simp only [Op.equalIn,Sem.run_bind,run_underlying hT,Result.andThen_ok,Sem.run_pure]
 exact h 9999
theorem awz {T:TypeId} (hT:P.underlying T=some .bool) {x y:Operand} (i j:Bool) :
  (do eqGuard .eql T x y (.bool i) (.bool j);binOp .eql T (.bool i) (.bool j):Sem Value).run P w=.ok (.bool (i==j)) w:=by
 have h1:(eqGuard .eql T x y (.bool i) (.bool j)).run P w=.ok () w:=by simp [eqGuard]
 have h2:(binOp .eql T (.bool i) (.bool j)).run P w=.ok (.bool (i==j)) w:=by
  simp only [binOp]
  rw [Sem.run_bind,run_equal_bool hT];rfl
 rw [Sem.run_bind,h1];exact h2
theorem aCs {T:TypeId} (hT:P.underlying T=some .bool) {x y:Operand} (i j:Bool) :
  (do eqGuard .neq T x y (.bool i) (.bool j);binOp .neq T (.bool i) (.bool j):Sem Value).run P w=.ok (.bool (!(i==j))) w:=by
 have h1:(eqGuard .neq T x y (.bool i) (.bool j)).run P w=.ok () w:=by simp [eqGuard]
 have h2:(binOp .neq T (.bool i) (.bool j)).run P w=.ok (.bool (!(i==j))) w:=by
  simp only [binOp]
  rw [Sem.run_bind,run_equal_bool hT];rfl
 rw [Sem.run_bind,h1];exact h2
theorem avO {T d:TypeId} (hT:P.underlying T=some (.slice d)) (a:Option Addr) (n c:Nat):(Op.equal T (.slice a n c) (.slice none 0 0)).run P w=.ok (a.isNone) w:=by
 have h:∀ k,(Op.equalIn (k+1) T (.slice a n c) (.slice none 0 0)).run P w=.ok (a.isNone) w:=fun k=>by
  cases a<;>simp only [Op.equalIn,Sem.run_bind,run_underlying hT,Result.andThen_ok,Sem.run_pure]<;>rfl
 exact h 9999
theorem al2 {T d:TypeId} (hT:P.underlying T=some (.slice d)) {x y:Operand} (a:Option Addr) (n c:Nat) :
  (do eqGuard .eql T x y (.slice a n c) (.slice none 0 0);binOp .eql T (.slice a n c) (.slice none 0 0):Sem Value).run P w=.ok (.bool a.isNone) w:=by
 have h1:(eqGuard .eql T x y (.slice a n c) (.slice none 0 0)).run P w=.ok () w:=by simp [eqGuard]
 have h2:(binOp .eql T (.slice a n c) (.slice none 0 0)).run P w=.ok (.bool a.isNone) w:=by
  simp only [binOp]
  rw [Sem.run_bind,avO hT];rfl
 rw [Sem.run_bind,h1];exact h2
theorem awx {E:TypeId} {d:TypeDesc} (h1:P.underlying E=some d) (h2:d.isRow=false) (cs:Array Value) (i:Nat) (v:Value) (h:cs[i]?=some v):(part E cs i).run P w=.ok v w:=by
 cases d<;>first | (exfalso;simp [TypeDesc.isRow] at h2;done) | (simp [part,isAgg,run_underlying h1,h])
theorem axv {T E:TypeId} (d:Nat) (hT:P.underlying T=some (.array 4 E)) (hE:P.underlying E=some .bool) (hs:(sizeOf E).run P w=.ok 1 w) (a b:Fin 4->Bool) :
  (Op.equalIn (d+2) T (.agg #[.bool (a 0),.bool (a 1),.bool (a 2),.bool (a 3)]) (.agg #[.bool (b 0),.bool (b 1),.bool (b 2),.bool (b 3)])).run P w=.ok (a 0==b 0 && (a 1==b 1 && (a 2==b 2 && a 3==b 3))) w:=by
 have hb:∀ x y:Bool,(Op.equalIn (d+1) E (.bool x) (.bool y)).run P w=.ok (x==y) w:=fun x y=>by
  simp only [Op.equalIn,Sem.run_bind,run_underlying hE,Result.andThen_ok,Sem.run_pure]
 have hp:=fun(cs:Array Value) (i:Nat) (v:Value) (h:cs[i]?=some v)=>awx (w:=w) hE (by rfl) cs i v h
 have pe:∀ (i:Nat) (x y:Bool) (hx:(#[Value.bool (a 0),Value.bool (a 1),Value.bool (a 2),Value.bool (a 3)])[i]?=some (.bool x)) (hy:(#[Value.bool (b 0),Value.bool (b 1),Value.bool (b 2),Value.bool (b 3)])[i]?=some (.bool y)),
   (do
    let doA <-part E #[Value.bool (a 0),Value.bool (a 1),Value.bool (a 2),Value.bool (a 3)] i
    let doB <-part E #[Value.bool (b 0),Value.bool (b 1),Value.bool (b 2),Value.bool (b 3)] i
    let doA <-Op.equalIn (d+1) E doA doB
    if (!doA)=true then pure (ForInStep.done (some false,())) else pure (ForInStep.yield (none,())):Sem (ForInStep (Option Bool × Unit))).run P w=.ok (if x==y then ForInStep.yield (none,()) else ForInStep.done (some false,())) w:=fun i x y hx hy=>by
  rw [Sem.run_bind,hp _ _ _ hx]
  simp only [Result.andThen_ok]
  rw [Sem.run_bind,hp _ _ _ hy]
  simp only [Result.andThen_ok]
  rw [Sem.run_bind,hb]
  simp only [Result.andThen_ok]
  cases x==y<;>simp
 rw [Op.equalIn,Sem.run_bind,run_underlying hT]
 simp only [Result.andThen_ok]
 rw [Sem.run_bind,hs]
 simp only [Result.andThen_ok]
 rw [Sem.run_bind]
 simp only [Std.Legacy.Range.forIn_eq_forIn_range',Std.Legacy.Range.size,Nat.sub_zero,Nat.div_one,List.range',List.forIn_cons,List.forIn_nil,Nat.reduceAdd,Nat.mul_one,Nat.zero_add]
 rw [Sem.run_bind,pe 0 (a 0) (b 0) rfl rfl]
 cases a 0==b 0
 ·simp
 simp only [Result.andThen_ok,if_true,Bool.true_and]
 rw [Sem.run_bind,pe 1 (a 1) (b 1) rfl rfl]
 cases a 1==b 1
 ·simp
 simp only [Result.andThen_ok,if_true,Bool.true_and]
 rw [Sem.run_bind,pe 2 (a 2) (b 2) rfl rfl]
 cases a 2==b 2
 ·simp
 simp only [Result.andThen_ok,if_true,Bool.true_and]
 rw [Sem.run_bind,pe 3 (a 3) (b 3) rfl rfl]
 cases a 3==b 3
 ·simp
 simp
theorem aBS {T E:TypeId} (hT:P.underlying T=some (.array 4 E)) (hE:P.underlying E=some .bool) (hs:bp P E 1 false) (hd:2<=P.depth) {x y:Operand} (a b:Fin 4->Bool) :
  (do eqGuard .eql T x y (.agg #[.bool (a 0),.bool (a 1),.bool (a 2),.bool (a 3)]) (.agg #[.bool (b 0),.bool (b 1),.bool (b 2),.bool (b 3)]);binOp .eql T (.agg #[.bool (a 0),.bool (a 1),.bool (a 2),.bool (a 3)]) (.agg #[.bool (b 0),.bool (b 1),.bool (b 2),.bool (b 3)]):Sem Value).run P w=.ok (.bool (a 0==b 0 && (a 1==b 1 && (a 2==b 2 && a 3==b 3)))) w:=by
 obtain⟨n,hn⟩:∃ n,P.depth=n+2:=⟨P.depth-2,J⟩
 have hg:P.eqGuardType P.depth T=false:=by rw [hn];simp [Program.eqGuardType,hT,hE]
 have h1:(eqGuard .eql T x y (.agg #[.bool (a 0),.bool (a 1),.bool (a 2),.bool (a 3)]) (.agg #[.bool (b 0),.bool (b 1),.bool (b 2),.bool (b 3)])).run P w=.ok () w:=by simp [eqGuard,hg]
 have h2:(binOp .eql T (.agg #[.bool (a 0),.bool (a 1),.bool (a 2),.bool (a 3)]) (.agg #[.bool (b 0),.bool (b 1),.bool (b 2),.bool (b 3)])).run P w=.ok (.bool (a 0==b 0 && (a 1==b 1 && (a 2==b 2 && a 3==b 3)))) w:=by
  simp only [binOp]
  have e:=axv 9998 hT hE (run_sizeOf (w:=w) hs) a b
  simp only [Nat.reduceAdd] at e
  rw [Sem.run_bind,Op.equal,Op.maxDepth,e];rfl
 rw [Sem.run_bind,h1];exact h2
theorem aph {Z:Nat->Prop} {μ:Nat->Option Nat} {a0 a1 a2 a3:Bool} {v:Value} (h:a9 Z μ w (.agg [.v (.bool a0),.v (.bool a1),.v (.bool a2),.v (.bool a3)]) v):v=.agg #[.bool a0,.bool a1,.bool a2,.bool a3]:=by
 obtain⟨cs,rfl,hr⟩:=h.1 rfl
 simp only [ay,b7] at hr
 obtain⟨c1,d1,e1,_,⟨r1,_⟩,c2,d2,e2,_,⟨r2,_⟩,c3,d3,e3,_,⟨r3,_⟩,c4,d4,e4,_,⟨r4,_⟩,r5⟩:=hr
 subst r1 r2 r3 r4 r5 e4 e3 e2
 congr 1
 exact Array.ext' e1
theorem asE {T E:TypeId} (hT:P.underlying T=some (.array 4 E)) (hE:P.underlying E=some .bool) (hs:bp P E 1 false) (hd:2<=P.depth) {x y:Operand} (a0 a1 a2 a3 b0 b1 b2 b3:Bool) :
  (do eqGuard .eql T x y (.agg #[.bool a0,.bool a1,.bool a2,.bool a3]) (.agg #[.bool b0,.bool b1,.bool b2,.bool b3]);binOp .eql T (.agg #[.bool a0,.bool a1,.bool a2,.bool a3]) (.agg #[.bool b0,.bool b1,.bool b2,.bool b3]):Sem Value).run P w=.ok (.bool (a0==b0 && (a1==b1 && (a2==b2 && a3==b3)))) w :=
 aBS hT hE hs hd (fun i=>[a0,a1,a2,a3][i]) (fun i=>[b0,b1,b2,b3][i])
theorem afo (isS:Bool) (len cap:Nat) (la ha:Option Value) (a h:Nat) (bX:∀ y,la=some y->∃ k,y=.int k (a:Nat)) (nL:la=none->a=0)
  (gj:∀ y,ha=some y->∃ k,y=.int k (h:Nat)) (rM:ha=none->h=len) (h1:a<=h) (h2:h<=cap) :
  (Instr.sliceBounds isS len cap la ha none).run P w=.ok (a,h,cap) w:=by
 have e1:∀ (k:IntKind) (c:BoundsCode),(Instr.sliceBound (.int k (h:Nat)) cap c).run P w=.ok h w:=fun k c=>by
  have:=run_sliceBound (P:=P) w k (h:Int) cap c J J
  simpa using this
 have e2:∀ (k:IntKind) (c:BoundsCode),(Instr.sliceBound (.int k (a:Nat)) h c).run P w=.ok a w:=fun k c=>by
  have:=run_sliceBound (P:=P) w k (a:Int) h c J J
  simpa using this
 cases la with
 | none =>
  have:=nL rfl
  subst this
  cases ha with
  | none=>have:=rM rfl;subst this;simp [Instr.sliceBounds]
  | some y=>obtain⟨k,rfl⟩:=gj y rfl;simp [Instr.sliceBounds,e1]
 | some x =>
  obtain⟨k',rfl⟩:=bX x rfl
  cases ha with
  | none=>have:=rM rfl;subst this;simp [Instr.sliceBounds,e2]
  | some y=>obtain⟨k,rfl⟩:=gj y rfl;simp [Instr.sliceBounds,e1,e2]
theorem asX (len cap:Nat) (la:Option Value) (a h m:Nat) (k k':IntKind) (bX:∀ y,la=some y->∃ k,y=.int k (a:Nat)) (nL:la=none->a=0) (h1:a<=h) (h2:h<=m) (h3:m<=cap) :
  (Instr.sliceBounds true len cap la (some (.int k (h:Nat))) (some (.int k' (m:Nat)))).run P w=.ok (a,h,m) w:=by
 have e0:∀ (c:BoundsCode),(Instr.sliceBound (.int k' (m:Nat)) cap c).run P w=.ok m w:=fun c=>by
  have:=run_sliceBound (P:=P) w k' (m:Int) cap c J J
  simpa using this
 have e1:∀ (c:BoundsCode),(Instr.sliceBound (.int k (h:Nat)) m c).run P w=.ok h w:=fun c=>by
  have:=run_sliceBound (P:=P) w k (h:Int) m c J J
  simpa using this
 have e2:∀ (k:IntKind) (c:BoundsCode),(Instr.sliceBound (.int k (a:Nat)) h c).run P w=.ok a w:=fun k c=>by
  have:=run_sliceBound (P:=P) w k (a:Int) h c J J
  simpa using this
 cases la with
 | none =>
  have:=nL rfl
  subst this
  simp [Instr.sliceBounds,e0,e1]
 | some x =>
  obtain⟨k',rfl⟩:=bX x rfl
  simp [Instr.sliceBounds,e0,e1,e2]
theorem aqc:∀ (fs:List Field) (ls:List (Nat × Bool)) (off:Nat),o5 P off fs ls ->
  ∃ pl:List (Nat × Nat),(fs.mapM fun f=>do pure (f.offset,<-sizeOf f.type):Sem (List (Nat × Nat))).run P w=.ok pl w/\∀ k n,ls[k]?=some n->pl[k]?=some (off+l7 (ls.take k),n.1)
 | [],[],_,_=>⟨[],rfl,fun k n h=>by simp at h⟩
 | [],_ :: _,_,h=>by simp [o5] at h
 | _ :: _,[],_,h=>by simp [o5] at h
 | f :: fs,(n,ag) :: r,off,h=>by
   simp only [o5] at h
   obtain⟨h1,h2,h3⟩:=h
   obtain⟨pl,e1,e2⟩:=aqc fs r (off+n) h3
   refine⟨(off,n) :: pl,?_,?_⟩
   ·simp only [List.mapM_cons,Sem.run_bind,run_sizeOf h2,Result.andThen_ok,Sem.run_pure,e1,h1]
   ·intro k m hk
    cases k with
    | zero=>simp at hk;subst hk;simp [l7]
    | succ k =>
     have:=e2 k m (by simpa using hk)
     simp only [List.getElem?_cons_succ,this,List.take_succ_cons,l7]
     congr 2;omega
theorem aeF {n sz:Nat} {ag:Bool}:∀ (fs:List LV) (k:Nat),(∀ z∈fs,lay z=(sz,ag))->k<=fs.length->cF (fs.take k)=k*sz
 | _,0,_,_=>by simp [cF]
 | [],k+1,_,h=>by simp at h
 | x :: xs,k+1,h,hk=>by
  have h1:x.au=sz:=by have:=h x aO;simp only [lay,Prod.mk.injEq] at this;exact this.1
  rw [List.take_succ_cons,cF,h1,aeF (n:=n) xs k (fun z hz=>h z (by simp [hz])) (by simpa using hk),Nat.succ_mul,Nat.add_comm]
theorem arq {fs:List LV} {n sz:Nat} {ag:Bool} (h:fs.map lay=List.replicate n (sz,ag)):fs.length=n/\∀ z∈fs,lay z=(sz,ag):=by
 refine⟨by have:=congrArg List.length h;simpa using this,fun z hz=>?_⟩
 have:lay z∈fs.map lay:=List.mem_map_of_mem hz
 rw [h] at this
 exact(List.mem_replicate.1 this).2
theorem run_indexAt_array {T E:TypeId} {n sz:Nat} {ag:Bool} (hT:P.underlying T=some (.array n E)) (hE:bp P E sz ag) (k:IntKind) (m:Int) (b off:Nat) (h0:0<=m) (h1:m<n) :
  (Instr.indexAt T (.pointer (some ⟨b,off,none⟩)) (.int k m)).run P w=.ok (.pointer (some ⟨b,off+m.toNat*sz,none⟩)) w:=by
 have h2:(0<=m/\m<(n:Int)):=⟨h0,h1⟩
 simp [Instr.indexAt,Instr.sureAddr,asIntOf,run_underlying hT,run_sizeOf hE,h2,Addr.add_mid]
theorem ayY {T E:TypeId} {n sz:Nat} {ag:Bool} {fs:List LV} {x:LV} {v:Value} {k:IntKind} {m:Int} (hT:P.underlying T=some (.array n E)) (hE:bp P E sz ag) (hf:fs.map lay=List.replicate n (sz,ag)) (h0:0<=m)
  (hx:fs[m.toNat]?=some x) (aQ:x≠.any) (h:eP Z μ w (.agg fs) v):∃ u,(Instr.index T v (.int k m)).run P w=.ok u w/\eP Z μ w x u:=by
 obtain⟨hl,hly⟩:=arq hf
 obtain⟨cs,rfl,hc⟩:=h.1 rfl
 simp only [ay] at hc
 obtain⟨pre,ch,post,e1,e2,e3,e4,_⟩:=b7.get fs cs.toList m.toNat x hc hx
 have hk:=(List.getElem?_eq_some_iff.1 hx).1
 have wc:=hly x (List.mem_of_getElem? hx)
 simp only [lay,Prod.mk.injEq] at wc
 obtain⟨u,ri,hu3⟩:=apk (T:=E) (by rw [wc.1,wc.2];exact hE) e1 e4 aQ
 refine⟨u,?_,hu3⟩
 have pZ:m.toNat*sz=pre.length:=by rw [e2,aeF (n:=n) fs m.toNat hly J]
 have h2:(0<=m/\m<(n:Int)):=⟨h0,J⟩
 simp only [Instr.index,asIntOf,Sem.run_bind,Sem.run_pure,Result.andThen_ok,run_underlying hT,if_pos h2,run_sizeOf hE,pZ]
 simpa using ri
theorem aul {T E:TypeId} {zs:List LV} {ps:Array (Nat × Operand)} {n sz:Nat} {ag:Bool} (hT:P.underlying T=some (.array n E)) (hE:bp P E sz ag) (hf:∀ z∈zs,lay z=(sz,ag)) (hz:cU P T (.agg zs))
  (hp:∀ p∈ps.toList,∃ z,zs[p.1]?=some z/\lay (ρ p.2)=lay z/\ρ p.2≠.any/\∀ m,ρ p.2≠.a7 m) (b9:∀ p∈ps.toList,a9 Z μ w (ρ p.2) (a.eval p.2)) :
  ∃ v,(Instr.build T (ps.map fun(i,x)=>(i,a.eval x))).run P w=.ok v w/\a9 Z μ w (.agg (iD zs (ps.toList.map fun p=>(p.1,ρ p.2)))) v:=by
 obtain⟨i,zv,z1,z2,_,z3⟩:=hz
 have ug:=z3 Z μ w
 simp only [ay] at ug
 obtain⟨cs,f1,f2⟩:=ad3 (Z:=Z) (μ:=μ) (w:=w) (ls:=zs.map lay) (fun k=>some (k*sz,sz)) (fun k n hk=>by
   rw [List.getElem?_map,Option.map_eq_some_iff] at hk
   obtain⟨z,hz,rfl⟩:=hk
   have hk:=(List.getElem?_eq_some_iff.1 hz).1
   have mA:=hf z (List.mem_of_getElem? hz)
   rw [mA,aeh,aeF (n:=0) zs k hf J])
  (ps.toList.map fun p=>(p.1,a.eval p.2)) (ps.toList.map fun p=>(p.1,ρ p.2)) zs zv.cells rfl ug aO
  (fun j p q iM oR=>by
   simp only [List.getElem?_map,Option.map_eq_some_iff] at iM oR
   obtain⟨x,hx,rfl⟩:=iM
   obtain⟨y,hy,rfl⟩:=oR
   rw [hx] at hy;cases hy
   have hm:=List.mem_of_getElem? hx
   obtain⟨z,_,_,h3,h4⟩:=hp x hm
   exact⟨a9.vq h4 h3 (b9 x hm),h3⟩)
  (fun q hq=>by
   simp only [List.mem_map] at hq
   obtain⟨x,hx,rfl⟩:=hq
   obtain⟨z,h1,h2,_⟩:=hp x hx
   exact⟨lay z,by simp [List.getElem?_map,h1],h2⟩)
 refine⟨.agg cs,?_,⟨fun _=>⟨cs,rfl,by simpa [ay] using f2⟩,by simp [LV.isAgg]⟩⟩
 have wH:(zeroValue T).run P w=.ok zv w:=by simp [zeroValue,typeInfo,z1,z2]
 simp only [Instr.build,Sem.run_bind,wH,Result.andThen_ok,run_underlying hT,run_sizeOf hE]
 have:(Array.map (fun x=>match x with | (i,x)=>(i,a.eval x)) ps).toList=ps.toList.map fun p=>(p.1,a.eval p.2):=by simp
 rw [this,f1];rfl
theorem axI {T:TypeId} {zs:List LV} {ps:Array (Nat × Operand)} (hT:jV P T (zs.map lay)) (hz:cU P T (.agg zs))
  (hp:∀ p∈ps.toList,∃ z,zs[p.1]?=some z/\lay (ρ p.2)=lay z/\ρ p.2≠.any/\∀ m,ρ p.2≠.a7 m) (b9:∀ p∈ps.toList,a9 Z μ w (ρ p.2) (a.eval p.2)) :
  ∃ v,(Instr.build T (ps.map fun(i,x)=>(i,a.eval x))).run P w=.ok v w/\a9 Z μ w (.agg (iD zs (ps.toList.map fun p=>(p.1,ρ p.2)))) v:=by
 obtain⟨i,zv,z1,z2,_,z3⟩:=hz
 obtain⟨fields,hu,hl,kI⟩:=hT
 have ug:=z3 Z μ w
 simp only [ay] at ug
 obtain⟨pl,e1,e2⟩:=aqc (P:=P) (w:=w) fields.toList _ 0 hl
 obtain⟨cs,f1,f2⟩:=ad3 (Z:=Z) (μ:=μ) (w:=w) (ls:=zs.map lay) (fun k=>pl.toArray[k]?) (fun k n hk=>by simpa using e2 k n hk)
  (ps.toList.map fun p=>(p.1,a.eval p.2)) (ps.toList.map fun p=>(p.1,ρ p.2)) zs zv.cells rfl ug aO
  (fun j p q iM oR=>by
   simp only [List.getElem?_map,Option.map_eq_some_iff] at iM oR
   obtain⟨x,hx,rfl⟩:=iM
   obtain⟨y,hy,rfl⟩:=oR
   rw [hx] at hy;cases hy
   have hm:=List.mem_of_getElem? hx
   obtain⟨z,_,_,h3,h4⟩:=hp x hm
   exact⟨a9.vq h4 h3 (b9 x hm),h3⟩)
  (fun q hq=>by
   simp only [List.mem_map] at hq
   obtain⟨x,hx,rfl⟩:=hq
   obtain⟨z,h1,h2,_⟩:=hp x hx
   exact⟨lay z,by simp [List.getElem?_map,h1],h2⟩)
 refine⟨.agg cs,?_,⟨fun _=>⟨cs,rfl,by simpa [ay] using f2⟩,by simp [LV.isAgg]⟩⟩
 have fv:(fields.mapM fun f=>do pure (f.offset,<-sizeOf f.type):Sem (Array (Nat × Nat))).run P w=.ok pl.toArray w:=by
  rw [Array.mapM_eq_mapM_toList,Sem.run_map,e1];rfl
 have wH:(zeroValue T).run P w=.ok zv w:=by simp [zeroValue,typeInfo,z1,z2]
 simp only [Instr.build,Sem.run_bind,wH,Result.andThen_ok,run_underlying hu,fv]
 have:(Array.map (fun x=>match x with | (i,x)=>(i,a.eval x)) ps).toList=ps.toList.map fun p=>(p.1,a.eval p.2):=by simp
 rw [this,f1];rfl
set_option maxHeartbeats 2000000 in
theorem aB.sound {op:Op} {r:LV} (ho:aB P H ρ op r) (b9:∀ x∈op.operands,a9 Z μ w (ρ x) (a.eval x))
  (hh:∀ b id,μ b=some id->∃ blk,H b=some blk/\rn Z μ w blk id) (dst:Option Tmp) (ty:TypeId) (pos:String) (after:Array Edge) (g:Option (Nat × Bool)) :
  ∃ v,(execOp a.eval ⟨dst,op,ty,pos,after,g⟩).run P w=.ok (.value v) w/\a9 Z μ w r v:=by
 cases ho with
 | move x=>exact⟨a.eval x,rfl,b9 x bH⟩
 | assign x=>exact⟨a.eval x,rfl,b9 x bH⟩
 | @pick c x y t h =>
  have hc:=b9 c bH;rw [h] at hc
  have hc:=hc.dP
  refine⟨if t then a.eval x else a.eval y,by cases t<;>simp [execOp,hc,asBool],?_⟩
  cases t
  ·simpa using b9 y bH
  ·simpa using b9 x bH
 | @bin op T x y U k i j r hx hy h =>
  have e1:=b9 x bH;rw [hx] at e1;have e1:=e1.dP
  have e2:=b9 y bH;rw [hy] at e2;have e2:=e2.dP
  refine⟨r,?_,a9.v (axb h)⟩
  have:=aBo (P:=P) (w:=w) (T:=T) (x:=x) (y:=y) h
  simp only [execOp,e1,e2]
  rw [Sem.run_bind,this];rfl
 | @sh op T x y U k k' i j r hx hy h =>
  have e1:=b9 x bH;rw [hx] at e1;have e1:=e1.dP
  have e2:=b9 y bH;rw [hy] at e2;have e2:=e2.dP
  refine⟨r,?_,a9.v (at8 h)⟩
  have:=awA (P:=P) (w:=w) (T:=T) (x:=x) (y:=y) (k':=k') h
  simp only [execOp,e1,e2]
  rw [Sem.run_bind,this];rfl
 | @beq T x y U i j hx hy hT =>
  have e1:=b9 x bH;rw [hx] at e1;have e1:=e1.dP
  have e2:=b9 y bH;rw [hy] at e2;have e2:=e2.dP
  exact⟨.bool (i==j),by simp only [execOp,e1,e2];rw [Sem.run_bind,awz hT];rfl,a9.bool⟩
 | @vU T x y U d hx hy hT =>
  have e1:=b9 x bH;rw [hx] at e1;have e1:=e1.dP
  have e2:=b9 y bH;rw [hy] at e2;have e2:=e2.dP
  exact⟨.bool true,by simp only [execOp,e1,e2];rw [Sem.run_bind,al2 hT];rfl,a9.bool⟩
 | @wY T x y U E a0 a1 a2 a3 b0 b1 b2 b3 hx hy hT hE hs hd =>
  have e1:=b9 x bH;rw [hx] at e1;have e1:=aph e1
  have e2:=b9 y bH;rw [hy] at e2;have e2:=aph e2
  exact⟨.bool _,by simp only [execOp,e1,e2];rw [Sem.run_bind,asE hT hE hs hd];rfl,a9.bool⟩
 | @vT T x y U sz v l d hx hy hT =>
  have e1:=b9 x bH;rw [hx] at e1
  have e2:=b9 y bH;rw [hy] at e2;have e2:=e2.dP
  have e3:=e1.2 rfl
  simp only [ay] at e3
  obtain⟨ad,len,cap,q1,q2,q3,q4,_⟩:=e3
  simp only [List.cons.injEq,and_true] at q1
  rcases q4 with q4 | ⟨blk,off,c,T',fz,part,rest,q5,_⟩
  ·cases q4
  ·subst q5
   exact⟨.bool false,by simp only [execOp,q1,e2];rw [Sem.run_bind,al2 hT];rfl,a9.bool⟩
 | @bne T x y U i j hx hy hT =>
  have e1:=b9 x bH;rw [hx] at e1;have e1:=e1.dP
  have e2:=b9 y bH;rw [hy] at e2;have e2:=e2.dP
  exact⟨.bool (!(i==j)),by simp only [execOp,e1,e2];rw [Sem.run_bind,aCs hT];rfl,a9.bool⟩
 | @not T x i hx =>
  have e1:=b9 x bH;rw [hx] at e1;have e1:=e1.dP
  exact⟨.bool (!i),by simp [execOp,e1,Op.unary],a9.bool⟩
 | @neg T x k i hx =>
  have e1:=b9 x bH;rw [hx] at e1;have e1:=e1.dP
  exact⟨.int k (k.wrap (0-i)),by simp [execOp,e1,Op.unary,Op.intArith],a9.int⟩
 | @conv S D x k k' n d hS hD hx =>
  have e1:=b9 x bH;rw [hx] at e1;have e1:=e1.dP
  exact⟨.int k (k.wrap n),by simp [execOp,e1,convert,run_underlying hS,run_underlying hD,Conv.intToInt],a9.int⟩
 | @extract t i l r ht hr aQ =>
  have e1:=b9 t bH;rw [ht] at e1
  obtain⟨vs,e2,e3⟩:=e1
  obtain⟨v,h1,h2⟩:=fe.get _ _ _ _ e3 hr
  refine⟨v,?_,a9.pL aQ h2⟩
  have:vs[i]?=some v:=by rw [<-Array.getElem?_toList];exact h1
  simp [execOp,e2,Instr.extract,this]
 | @field T x k fs r hx hT hr aQ =>
  have e1:=b9 x bH;rw [hx] at e1
  obtain⟨u,h1,h2⟩:=ayO (P:=P) (w:=w) hT hr (LV.eF aQ) (a9.vq aO aO e1)
  exact⟨u,by simp [execOp,h1],a9.pL (LV.dZ aQ) h2⟩
 | @wv T p k fs r hp hT hr =>
  have e1:=b9 p bH;rw [hp] at e1
  have e2:=e1.2 rfl
  simp only [ay] at e2
  obtain⟨blk,off,cc,U,fz,part,rest,h1,h2,h3,h4,h5,h6,h7⟩:=e2
  obtain⟨pre,ch,post,g1,g2,g3,g4,_⟩:=b7.get fs part k r h6 hr
  have hk:k<(fs.map lay).length:=by rw [List.length_map];exact(List.getElem?_eq_some_iff.1 hr).1
  have hf:=alc (P:=P) (w:=w) hT hk blk off
  rw [aeh] at hf
  refine⟨.pointer (some ⟨blk,off+cF (fs.take k),none⟩),?_,⟨by simp [LV.isAgg],fun _=>?_⟩⟩
  ·simp only [List.cons.injEq,and_true] at h1
   simp [execOp,h1,hf]
  ·simp only [ay]
   refine⟨blk,_,cc,U,fz,ch,post++rest,rfl,h2,h3,?_,g3,g4,(vB _).1 (by simpa [LV.pure] using h7) _ (List.mem_of_getElem? hr)⟩
   rw [<-List.drop_drop,h4,g1,<-g2]
   simp
 | @yj T p k b sz i o ls hp hT hk =>
  have e1:=b9 p bH;rw [hp] at e1
  have e2:=e1.2 rfl
  simp only [ay] at e2
  obtain⟨id,h1,h2⟩:=e2
  simp only [List.cons.injEq,and_true] at h1
  have hf:=alc (P:=P) (w:=w) hT hk id (i*sz+o)
  refine⟨.pointer (some ⟨id,i*sz+o+l7 (ls.take k),none⟩),by simp [execOp,h1,hf],⟨by simp [LV.isAgg],fun _=>?_⟩⟩
  simp only [ay]
  exact⟨id,by rw [Nat.add_assoc],h2⟩
 | @yf T E x i n fs k m r sz ag hx hT hE hf hi h0 hr hp =>
  have e1:=b9 x bH;rw [hx] at e1
  have e2:=b9 i bH;rw [hi] at e2;have e2:=e2.dP
  obtain⟨u,h1,h2⟩:=ayY (P:=P) (w:=w) (k:=k) hT hE hf h0 hr (LV.eF hp) (a9.vq aO aO e1)
  exact⟨u,by simp [execOp,e2,h1],a9.pL (LV.dZ hp) h2⟩
 | @xz T E x j n b sz i o k m es ag hx hT hE hi h0 hm =>
  have e1:=b9 x bH;rw [hx] at e1
  have e3:=b9 j bH;rw [hi] at e3;have e3:=e3.dP
  have e2:=e1.2 rfl
  simp only [ay] at e2
  obtain⟨id,h1,h2⟩:=e2
  simp only [List.cons.injEq,and_true] at h1
  have hf:=run_indexAt_array (P:=P) (w:=w) hT hE k m id (i*sz+o) h0 hm
  refine⟨.pointer (some ⟨id,i*sz+o+m.toNat*es,none⟩),by simp [execOp,h1,e3,hf],⟨by simp [LV.isAgg],fun _=>?_⟩⟩
  simp only [ay]
  exact⟨id,by rw [Nat.add_assoc],h2⟩
 | @yC T E x i n fs k m r sz ag hx hT hE hf hi h0 hr =>
  have e1:=b9 x bH;rw [hx] at e1
  have e3:=b9 i bH;rw [hi] at e3;have e3:=e3.dP
  have e2:=e1.2 rfl
  simp only [ay] at e2
  obtain⟨blk,off,cc,U,fz,part,rest,h1,h2,h3,h4,h5,h6,h7⟩:=e2
  obtain⟨hl,hly⟩:=arq hf
  have hk:=(List.getElem?_eq_some_iff.1 hr).1
  obtain⟨pre,ch,post,g1,g2,g3,g4,_⟩:=b7.get fs part m.toNat r h6 hr
  have oJ:=run_indexAt_array (P:=P) (w:=w) hT hE k m blk off h0 J
  rw [<-aeF (n:=n) fs m.toNat hly J] at oJ
  refine⟨.pointer (some ⟨blk,off+cF (fs.take m.toNat),none⟩),?_,⟨by simp [LV.isAgg],fun _=>?_⟩⟩
  ·simp only [List.cons.injEq,and_true] at h1
   simp [execOp,h1,e3,oJ]
  ·simp only [ay]
   refine⟨blk,_,cc,U,fz,ch,post++rest,rfl,h2,h3,?_,g3,g4,(vB _).1 (by simpa [LV.pure] using h7) _ (List.mem_of_getElem? hr)⟩
   rw [<-List.drop_drop,h4,g1,<-g2]
   simp
 | @wC T p c hp hT hc =>
  have e1:=b9 p bH;rw [hp] at e1
  have e2:=e1.2 rfl
  simp only [ay] at e2
  obtain⟨blk,off,cc,U,fz,part,rest,h1,h2,h3,h4,h5,h6,h7⟩:=e2
  simp only [List.cons.injEq,and_true] at h1
  obtain⟨v,g1,g2⟩:=aqq (P:=P) hT h3 h4 h6 (LV.eF hc)
  exact⟨v,by simp [execOp,h1,g1],a9.pL (LV.dZ hc) g2⟩
 | @fu T p b sz i o blk x r n ag hp hb hs hi hx hr hT =>
  have e1:=b9 p bH;rw [hp] at e1
  have e2:=e1.2 rfl
  simp only [ay] at e2
  obtain⟨id,h1,h2⟩:=e2
  simp only [List.cons.injEq,and_true] at h1
  obtain⟨blk',pX,c,U,part,rest,q1,q2,q3⟩:=hh b id h2
  rw [hb] at pX;cases pX
  obtain⟨ch,post,k1,k2,k3⟩:=aiP (off:=0) (by simpa using q2) q3 hi
  obtain⟨pre,su,sR,j1,j2,j3,j4,j5,j6,j7,j8⟩:=LV.ahr x o n ag r ch hr k3 (by rw [k2,hs,hx])
  have hd:c.toList.drop (i*sz+o)=su++(sR++post):=by
   rw [Nat.zero_add,hs] at k1
   rw [<-List.drop_drop,k1,j1,<-j2];simp
  obtain⟨v,g1,g2⟩:=aqq (P:=P) (y:=r) (by rw [j5,j6];exact hT) q1 hd j4 j7
  exact⟨v,by simp [execOp,h1,g1],a9.pL j8 g2⟩
 | @acn x b sz i o hx =>
  have e1:=b9 x bH;rw [hx] at e1
  have e2:=e1.2 rfl
  simp only [ay] at e2
  obtain⟨id,h1,h2⟩:=e2
  simp only [List.cons.injEq,and_true] at h1
  exact⟨a.eval x,by simp [execOp,h1],e1⟩
 | @acU x c hx =>
  have e1:=b9 x bH;rw [hx] at e1
  have e2:=e1.2 rfl
  simp only [ay] at e2
  obtain⟨blk,off,cc,U,fz,part,rest,h1,h2⟩:=e2
  simp only [List.cons.injEq,and_true] at h1
  exact⟨a.eval x,by simp [execOp,h1],e1⟩
 | @lV T E x i sz l k n r ag hx hT hE hi h0 hr hc =>
  have e1:=b9 x bH;rw [hx] at e1
  have e2:=b9 i bH;rw [hi] at e2;have e2:=e2.dP
  have e3:=e1.2 rfl
  simp only [ay] at e3
  obtain⟨ad,len,cap,h1,h2,h3,h4,h9⟩:=e3
  simp only [List.cons.injEq,and_true] at h1
  have bE:=(List.getElem?_eq_some_iff.1 hr).1
  rcases h4 with h4 | ⟨blk,off,c,U,fz,part,rest,g1,g2,g3,g4,g5⟩
  ·subst h4;simp at bE
  ·subst g1
   have hn:n<(len:Int):=by omega
   have:=run_indexAt_slice (P:=P) (w:=w) hT hE k n len cap blk off h0 hn
   obtain⟨ch,post,k1,k2,k3⟩:=aiP g4 g5 hr
   refine⟨_,by simp only [execOp,h1,e2,Sem.run_bind,this];rfl,⟨by simp [LV.isAgg],fun _=>?_⟩⟩
   simp only [ay]
   exact⟨blk,_,c,U,fz,ch,post,rfl,g2,g3,k1,by rw [k2,hc],k3,(vB _).1 h9 _ (List.mem_of_getElem? hr)⟩
 | @tB T E x i b sz off len k n ag hx hT hE hi h0 hn =>
  have e1:=b9 x bH;rw [hx] at e1
  have e2:=b9 i bH;rw [hi] at e2;have e2:=e2.dP
  have e3:=e1.2 rfl
  simp only [ay] at e3
  rcases e3 with⟨_,e3⟩ | ⟨id,cap,c,U,fz,h1,h2,h3,h4,h5⟩
  ·omega
  simp only [List.cons.injEq,and_true] at h1
  have:=run_indexAt_slice (P:=P) (w:=w) hT hE k n len cap id (off*sz) h0 hn
  refine⟨_,by simp only [execOp,h1,e2,Sem.run_bind,this];rfl,⟨by simp [LV.isAgg],fun _=>?_⟩⟩
  simp only [ay]
  exact⟨id,by rw [Nat.add_mul];rfl,h2⟩
 | @aaG T E x sz ag l lo hi la ha hx hT hE bX nL gj rM h1 h2 =>
  have e1:=b9 x bH;rw [hx] at e1
  have e3:=e1.2 rfl
  simp only [ay] at e3
  obtain⟨ad,len,cap,q1,q2,q3,q4,q9⟩:=e3
  simp only [List.cons.injEq,and_true] at q1
  have hb:=afo (P:=P) (w:=w) true len cap (la.map a.eval) (ha.map a.eval) lo hi
   (fun y hy=>by
    cases la with
    | none=>simp at hy
    | some z =>
     simp only [Option.map_some,Option.some.injEq] at hy
     obtain⟨k,hk⟩:=bX z rfl
     have:=b9 z bH;rw [hk] at this
     exact⟨k,by rw [<-hy];exact this.dP⟩)
   (fun h=>nL lr)
   (fun y hy=>by
    cases ha with
    | none=>simp at hy
    | some z =>
     simp only [Option.map_some,Option.some.injEq] at hy
     obtain⟨k,hk⟩:=gj z rfl
     have:=b9 z bH;rw [hk] at this
     exact⟨k,by rw [<-hy];exact this.dP⟩)
   (fun h=>by rw [q2];exact rM lr) h1 J
  have eu:(Instr.sliceAt T (.slice ad len cap) (la.map a.eval) (ha.map a.eval) none).run P w=.ok (.slice (if cap=lo then ad else ad.map (·.add (lo*sz))) (hi-lo) (cap-lo)) w:=by
   simp only [Instr.sliceAt,Sem.run_bind,run_underlying hT,Result.andThen_ok,Instr.slice,hb,run_sizeOf hE,Sem.run_pure]
  refine⟨_,by simp only [execOp,q1,Option.map_none,Sem.run_bind,eu];rfl,⟨by simp [LV.isAgg],fun _=>?_⟩⟩
  simp only [ay]
  refine⟨_,_,_,rfl,by simp;omega,J,?_,(vB _).2 fun x hx=>(vB _).1 q9 x (List.mem_of_mem_take (List.mem_of_mem_drop hx))⟩
  by_cases bE:lo<hi
  ·right
   rcases q4 with q4 | ⟨blk,off,c,U,fz,part,rest,g1,g2,g3,g4,g5⟩
   ·subst q4;simp at h2;omega
   ·subst g1
    have ix:¬ cap=lo:=by omega
    obtain⟨c1,c2,d1,d2,d3⟩:=aM.split (l.take hi) (l.drop hi) part (by rw [List.take_append_drop];exact g5)
    obtain⟨c3,c4,d4,d5,d6⟩:=aM.split ((l.take hi).take lo) ((l.take hi).drop lo) c1 (by rw [List.take_append_drop];exact d2)
    have lf:=aM.length _ _ d5
    simp only [List.length_take] at lf
    refine⟨blk,off+lo*sz,c,U,fz,c4,c2++rest,by simp [ix,Addr.add_mid],g2,g3,?_,d6⟩
    rw [<-List.drop_drop,g4,d1,d4]
    have:lo*sz=c3.length:=by rw [lf];congr 1;omega
    rw [this];simp
  ·left
   have:lo=hi:=by omega
   subst this
   apply List.eq_nil_of_length_eq_zero
   simp
 | @th T E x b sz off len ag lo hi la ha hx hT hE bX nL gj rM h1 h2 kI =>
  have e1:=b9 x bH;rw [hx] at e1
  have e3:=e1.2 rfl
  simp only [ay] at e3
  rcases e3 with⟨_,e3⟩ | ⟨id,cap,c,U,fz,q1,q2,q3,q4,q5⟩
  ·omega
  simp only [List.cons.injEq,and_true] at q1
  have hb:=afo (P:=P) (w:=w) true len cap (la.map a.eval) (ha.map a.eval) lo hi
   (fun y hy=>by
    cases la with
    | none=>simp at hy
    | some z =>
     simp only [Option.map_some,Option.some.injEq] at hy
     obtain⟨k,hk⟩:=bX z rfl
     have:=b9 z bH;rw [hk] at this
     exact⟨k,by rw [<-hy];exact this.dP⟩)
   (fun h=>nL lr)
   (fun y hy=>by
    cases ha with
    | none=>simp at hy
    | some z =>
     simp only [Option.map_some,Option.some.injEq] at hy
     obtain⟨k,hk⟩:=gj z rfl
     have:=b9 z bH;rw [hk] at this
     exact⟨k,by rw [<-hy];exact this.dP⟩)
   (fun h=>rM lr) h1 J
  have eu:(Instr.sliceAt T (.slice (some ⟨id,off*sz,none⟩) len cap) (la.map a.eval) (ha.map a.eval) none).run P w =
    .ok (.slice (if cap=lo then some ⟨id,off*sz,none⟩ else some ⟨id,off*sz+lo*sz,none⟩) (hi-lo) (cap-lo)) w:=by
   simp only [Instr.sliceAt,Sem.run_bind,run_underlying hT,Result.andThen_ok,Instr.slice,hb,run_sizeOf hE,Sem.run_pure,Option.map_some,Addr.add_mid]
  refine⟨_,by simp only [execOp,q1,Option.map_none,Sem.run_bind,eu];rfl,⟨by simp [LV.isAgg],fun _=>?_⟩⟩
  simp only [ay]
  have ix:¬ cap=lo:=by omega
  refine .inr ⟨id,cap-lo,c,U,fz,by simp [ix,Nat.add_mul],q2,J,q4,?_⟩
  have:off+lo+(cap-lo)=off+cap:=by omega
  rw [this];exact q5
 | @adp T E x b sz off len ag lo hi mx la z zm k k' hx hT hE bX nL gj hmx h1 h2 h3 kI =>
  have e1:=b9 x bH;rw [hx] at e1
  have e3:=e1.2 rfl
  simp only [ay] at e3
  rcases e3 with⟨_,e3⟩ | ⟨id,cap,c,U,fz,q1,q2,q3,q4,q5⟩
  ·omega
  simp only [List.cons.injEq,and_true] at q1
  have g1:=b9 z bH;rw [gj] at g1
  have g2:=b9 zm bH;rw [hmx] at g2
  have hb:=asX (P:=P) (w:=w) len cap (la.map a.eval) lo hi mx k k'
   (fun y hy=>by
    cases la with
    | none=>simp at hy
    | some z =>
     simp only [Option.map_some,Option.some.injEq] at hy
     obtain⟨k,hk⟩:=bX z rfl
     have:=b9 z bH;rw [hk] at this
     exact⟨k,by rw [<-hy];exact this.dP⟩)
   (fun h=>nL lr) h1 h2 J
  have eu:(Instr.sliceAt T (.slice (some ⟨id,off*sz,none⟩) len cap) (la.map a.eval) (some (a.eval z)) (some (a.eval zm))).run P w =
    .ok (.slice (if mx=lo then some ⟨id,off*sz,none⟩ else some ⟨id,off*sz+lo*sz,none⟩) (hi-lo) (mx-lo)) w:=by
   rw [g1.dP,g2.dP]
   simp only [Instr.sliceAt,Sem.run_bind,run_underlying hT,Result.andThen_ok,Instr.slice,hb,run_sizeOf hE,Sem.run_pure,Option.map_some,Addr.add_mid]
  refine⟨_,by simp only [execOp,q1,Option.map_some,Sem.run_bind,eu];rfl,⟨by simp [LV.isAgg],fun _=>?_⟩⟩
  simp only [ay]
  have ix:¬ mx=lo:=by omega
  refine .inr ⟨id,mx-lo,c,U,fz,by simp [ix,Nat.add_mul],q2,J,q4,?_⟩
  have:off+lo+(mx-lo)=off+mx:=by omega
  rw [this]
  exact Nat.le_trans (Nat.mul_le_mul_right _ J) q5
 | @xb T x sz l d as hx has hT =>
  have e1:=b9 x jH;rw [hx] at e1
  have e3:=e1.2 rfl
  simp only [ay] at e3
  obtain⟨ad,len,cap,q1,q2,_⟩:=e3
  simp only [List.cons.injEq,and_true] at q1
  subst has
  exact⟨.int .i64 (l.length:Nat),by simp [execOp,resolve,invoke,builtin,q1,Builtin.len_,run_underlying hT,goInt,q2],a9.int⟩
 | @xR T x b sz off len d as hx has hT =>
  have e1:=b9 x jH;rw [hx] at e1
  have e3:=e1.2 rfl
  simp only [ay] at e3
  subst has
  rcases e3 with⟨q1,rfl⟩ | ⟨id,cap,c,U,fz,q1,_⟩
  ·simp only [List.cons.injEq,and_true] at q1
   exact⟨.int .i64 (0:Nat),by simp [execOp,resolve,invoke,builtin,q1,Builtin.len_,run_underlying hT,goInt],a9.int⟩
  simp only [List.cons.injEq,and_true] at q1
  exact⟨.int .i64 (len:Nat),by simp [execOp,resolve,invoke,builtin,q1,Builtin.len_,run_underlying hT,goInt],a9.int⟩
 | @y5 T x b sz off len cp d as hx has hT =>
  have e1:=b9 x jH;rw [hx] at e1
  have e3:=e1.2 rfl
  simp only [ay] at e3
  subst has
  obtain⟨id,c,U,fz,q1,_⟩:=e3
  simp only [List.cons.injEq,and_true] at q1
  exact⟨.int .i64 (len:Nat),by simp [execOp,resolve,invoke,builtin,q1,Builtin.len_,run_underlying hT,goInt],a9.int⟩
 | @adv T x b sz off len cp d as hx has hT =>
  have e1:=b9 x jH;rw [hx] at e1
  have e3:=e1.2 rfl
  simp only [ay] at e3
  subst has
  obtain⟨id,c,U,fz,q1,_⟩:=e3
  simp only [List.cons.injEq,and_true] at q1
  exact⟨.int .i64 (cp:Nat),by simp [execOp,resolve,invoke,builtin,q1,Builtin.cap_,run_underlying hT,goInt],a9.int⟩
 | @aa7 T E x b sz off len cp ag lo hi la ha hx hT hE bX nL gj rM h1 h2 kI =>
  have e1:=b9 x bH;rw [hx] at e1
  have e3:=e1.2 rfl
  simp only [ay] at e3
  obtain⟨id,c,U,fz,q1,q2,q3,q4,q5⟩:=e3
  simp only [List.cons.injEq,and_true] at q1
  have hb:=afo (P:=P) (w:=w) true len cp (la.map a.eval) (ha.map a.eval) lo hi
   (fun y hy=>by
    cases la with
    | none=>simp at hy
    | some z =>
     simp only [Option.map_some,Option.some.injEq] at hy
     obtain⟨k,hk⟩:=bX z rfl
     have:=b9 z bH;rw [hk] at this
     exact⟨k,by rw [<-hy];exact this.dP⟩)
   (fun h=>nL lr)
   (fun y hy=>by
    cases ha with
    | none=>simp at hy
    | some z =>
     simp only [Option.map_some,Option.some.injEq] at hy
     obtain⟨k,hk⟩:=gj z rfl
     have:=b9 z bH;rw [hk] at this
     exact⟨k,by rw [<-hy];exact this.dP⟩)
   (fun h=>rM lr) h1 h2
  have eu:(Instr.sliceAt T (.slice (some ⟨id,off*sz,none⟩) len cp) (la.map a.eval) (ha.map a.eval) none).run P w =
    .ok (.slice (if cp=lo then some ⟨id,off*sz,none⟩ else some ⟨id,off*sz+lo*sz,none⟩) (hi-lo) (cp-lo)) w:=by
   simp only [Instr.sliceAt,Sem.run_bind,run_underlying hT,Result.andThen_ok,Instr.slice,hb,run_sizeOf hE,Sem.run_pure,Option.map_some,Addr.add_mid]
  refine⟨_,by simp only [execOp,q1,Option.map_none,Sem.run_bind,eu];rfl,⟨by simp [LV.isAgg],fun _=>?_⟩⟩
  simp only [ay]
  have ix:¬ cp=lo:=by omega
  refine⟨id,c,U,fz,by simp [ix,Nat.add_mul],q2,J,q4,?_⟩
  have:off+lo+(cp-lo)=off+cp:=by omega
  rw [this];exact q5
 | @xL T x d as hx has hT =>
  have e1:=b9 x jH;rw [hx] at e1;have e1:=e1.dP
  subst has
  exact⟨.int .i64 (0:Nat),by simp [execOp,resolve,invoke,builtin,e1,Builtin.len_,run_underlying hT,goInt],a9.int⟩
 | @ago T x d as hx has hT =>
  have e1:=b9 x jH;rw [hx] at e1;have e1:=e1.dP
  subst has
  exact⟨.int .i64 (0:Nat),by simp [execOp,resolve,invoke,builtin,e1,Builtin.cap_,run_underlying hT,goInt],a9.int⟩
 | @ahz T E x ha k sz ag hx hT hE hh =>
  have e1:=b9 x bH;rw [hx] at e1;have e1:=e1.dP
  have e2:=b9 ha bH;rw [hh] at e2;have e2:=e2.dP
  have hb:=afo (P:=P) (w:=w) true 0 0 none (some (a.eval ha)) 0 0 (fun y hy=>by cases hy) (fun _=>rfl) (fun y hy=>by cases hy;exact⟨k,e2⟩) (fun h=>by cases h) (Nat.le_refl _) (Nat.le_refl _)
  have eu:(Instr.sliceAt T (.slice none 0 0) none (some (a.eval ha)) none).run P w=.ok (.slice none 0 0) w:=by
   simp only [Instr.sliceAt,Sem.run_bind,run_underlying hT,Result.andThen_ok,Instr.slice,hb,run_sizeOf hE,Sem.run_pure]
   rfl
  refine⟨_,by simp only [execOp,e1,Option.map_none,Option.map_some,Sem.run_bind,eu];rfl,a9.v rfl⟩
 | @min2 x y k i j as hx hy =>
  have e1:=b9 x jH;rw [hx] at e1;have e1:=e1.dP
  have e2:=b9 y jH;rw [hy] at e2;have e2:=e2.dP
  exact⟨.int k (if j<i then j else i),by simp [execOp,resolve,invoke,builtin,e1,e2,Builtin.min_,Builtin.min2],a9.int⟩
 | @max2 x y k i j as hx hy =>
  have e1:=b9 x jH;rw [hx] at e1;have e1:=e1.dP
  have e2:=b9 y jH;rw [hy] at e2;have e2:=e2.dP
  exact⟨.int k (if j > i then j else i),by simp [execOp,resolve,invoke,builtin,e1,e2,Builtin.max_,Builtin.max2],a9.int⟩
 | @aeW T x i s k n b hx hT hi h0 hb =>
  have e1:=b9 x bH;rw [hx] at e1;have e1:=e1.dP
  have e2:=b9 i bH;rw [hi] at e2;have e2:=e2.dP
  exact⟨.int .u8 b.toNat,by simp [execOp,e1,e2,Instr.index,asIntOf,run_underlying hT,h0,hb],a9.int⟩
 | @yg f xs as fn e vs r1 r2 hf nR hb hn he hx hr h1 h2 =>
  have hargs:xs.map a.eval=vs.toArray:=by
   apply Array.ext'
   rw [Array.toList_map]
   have:∀ (l:List Operand) (vs:List Value),l.map ρ=vs.map LV.v->(∀ x∈l,a9 Z μ w (ρ x) (a.eval x))->l.map a.eval=vs:=by
    intro l
    induction l with
    | nil =>
         intro vs h _;cases vs with
         | nil=>rfl
         | cons=>simp at h
    | cons y ys ih =>
     intro vs h hr
     cases vs with
     | nil=>simp at h
     | cons v vs =>
      simp only [List.map_cons,List.cons.injEq] at h ⊢
      have h3:=hr y aO
      rw [h.1] at h3
      exact⟨h3.dP,ih vs h.2 (fun z hz=>hr z (by simp [hz]))⟩
   exact this xs.toList vs hx (fun x hx=>b9 x (by simp [Op.operands,Call.operands];right;simpa using hx))
  have hc:=run_callFunc_extern (P:=P) (args:=vs.toArray) hf nR hb hn he w
  refine⟨.tuple #[r1,r2],?_,⟨#[r1,r2],rfl,?_⟩⟩
  ·rw [hr w] at hc
   simp only [execOp,resolve,Act.eval,Deferred.ofValue,Sem.run_bind,Sem.run_pure,Result.andThen_ok,invoke]
   rw [hargs]
   simp only [Array.append_empty,Array.empty_append]
   rw [hc];rfl
  ·exact⟨r1,[r2],rfl,⟨by simp [LV.isAgg],fun _=>by simp [ay,h1]⟩,r2,[],rfl,⟨by simp [LV.isAgg],fun _=>by simp [ay,h2]⟩,rfl⟩
 | @wb T x y U s t hx hy h =>
  have e1:=b9 x bH;rw [hx] at e1;have e1:=e1.dP
  have e2:=b9 y bH;rw [hy] at e2;have e2:=e2.dP
  refine⟨.string (s++t),?_,⟨by simp [LV.isAgg],fun _=>by simp [ay,Value.oneCell']⟩⟩
  have h1:(binOp .add T (.string s) (.string t)).run P w=.ok (.string (s++t)) w:=by
   simp only [binOp,Op.stringOp]
   rw [if_neg (by have:IntKind.i64.max=9223372036854775807:=rfl;rw [this];omega)];rfl
  simp only [execOp,e1,e2,eqGuard]
  simp [h1]
 | @wL T x y U s t hx hy =>
  have e1:=b9 x bH;rw [hx] at e1;have e1:=e1.dP
  have e2:=b9 y bH;rw [hy] at e2;have e2:=e2.dP
  refine⟨.bool (s.toList==t.toList),?_,a9.bool⟩
  have h1:(binOp .eql T (.string s) (.string t)).run P w=.ok (.bool (s.toList==t.toList)) w:=by
   simp only [binOp,Op.stringOp];rfl
  simp only [execOp,e1,e2,eqGuard]
  simp [h1]
 | @ahf S D E x b off len blk ns hS hE hD hx hb hs hv hl =>
  have e1:=b9 x bH;rw [hx] at e1
  have e3:=e1.2 rfl
  simp only [ay] at e3
  refine⟨_,?_,⟨by simp [LV.isAgg],fun _=>by simp only [ay];exact⟨rfl,by simp [Value.oneCell']⟩⟩⟩
  have hlen:len=ns.length:=by
   have:=congrArg List.length hv
   simp only [List.length_take,List.length_drop,List.length_map] at this;omega
  have oL:∀ v:Value,(∀ k n,v≠.int k n)->(∀ a b,v≠.float a b)->True:=fun _ _ _=>trivial
  rcases e3 with⟨e3,hl0⟩ | ⟨id,cap,c,U,fz,q1,q2,q3,q4,q5⟩
  ·simp only [List.cons.injEq,and_true] at e3
   have:ns=[]:=List.eq_nil_of_length_eq_zero J
   subst this
   simp [execOp,e3,convert,run_underlying hS,run_underlying hD,run_underlying hE,Conv.bytesToString]
  ·simp only [List.cons.injEq,and_true] at q1
   obtain⟨blk',g1,cc,T',part,rest,g2,g3,g4⟩:=hh b id q2
   rw [hb] at g1;cases g1
   rw [hs] at g4
   have hcell:∀ (l:List LV) (ps:List Value),aM Z μ w 1 l ps->∀ (j n:Nat),l[j]?=some (.v (.int .u8 (n:Nat)))->ps[j]?=some (.int .u8 (n:Nat)):=by
    intro l
    induction l with
    | nil=>intro ps _ j n h;simp at h
    | cons y ys ih =>
     intro ps hr j n h
     simp only [aM] at hr
     obtain⟨ch,ps',rfl,k1,k2,k3⟩:=hr
     match ch,k1 with
     | [u],_ =>
      cases j with
      | zero =>
       simp only [List.getElem?_cons_zero,Option.some.injEq] at h
       subst h
       simp only [ay] at k2
       obtain⟨k2,_⟩:=k2
       simp only [List.cons.injEq,and_true] at k2
       simp [k2]
      | succ j =>
       have:=ih ps' k3 j n lr
       simpa using this
   have hld:(loadCells ⟨id,off*1,none⟩ len).run P w=.ok ((ns.map Int.ofNat).map (Value.int .u8)).toArray w:=by
    have hL:len=((ns.map Int.ofNat).map (Value.int .u8)).length:=by simp [hlen]
    rw [hL]
    refine run_loadCells_list w _ _ (fun j v hv'=>?_)
    have hj:j<ns.length:=by
     rcases Nat.lt_or_ge j ns.length with h | h
     ·exact h
     ·rw [List.getElem?_eq_none lr] at hv';cases hv'
    have hv2:v=.int .u8 ((ns[j]:Nat):Int):=by
     rw [List.getElem?_eq_getElem (by simpa using hj)] at hv'
     simp at hv';exact hv'.symm
    have hvj:blk.vals[off+j]?=some (.v (.int .u8 ((ns[j]:Nat):Int))):=by
     have:=congrArg (fun l=>l[j]?) hv
     simp only [List.getElem?_take,if_pos (show j<len by omega),List.getElem?_drop,List.getElem?_map,List.getElem?_eq_getElem hj,Option.map_some] at this
     exact this
    have hp:=hcell _ _ g4 (off+j) _ hvj
    have ae4:(⟨id,off*1,none⟩:Addr).add j=⟨id,off+j,none⟩:=by unfold Addr.add;split<;>simp_all
    rw [ae4,cell_of_row w id (off+j) cc T' (0,0) g2,hv2]
    rw [<-Array.getElem?_toList,g3,List.getElem?_append_left (by rcases Nat.lt_or_ge (off+j) part.length with h | h;exact h;rw [List.getElem?_eq_none h] at hp;cases hp)]
    exact hp
   have px:=run_bytesToString w _ len cap _ hld
   simp only [execOp,q1]
   rw [Sem.run_bind]
   have:(convert S D (.slice (some ⟨id,off*1,none⟩) len cap)).run P w=.ok (.string ((ns.map Int.ofNat).foldl (fun r n=>r.push (UInt8.ofNat n.toNat)) ByteArray.empty)) w:=by
    simp only [convert,Sem.run_bind,run_underlying hS,run_underlying hD,Result.andThen_ok,run_underlying hE]
    exact px
   rw [this];rfl
 | @xH T E zs ps n sz ag hT hE hf hz hp =>
  have hm:∀ p∈ps.toList,a9 Z μ w (ρ p.2) (a.eval p.2):=fun p hp=>b9 p.2 (by simp [Op.operands];exact⟨p.1,by simpa using hp⟩)
  obtain⟨v,h1,h2⟩:=aul (P:=P) (Z:=Z) (μ:=μ) (w:=w) (a:=a) hT hE hf hz hp hm
  exact⟨v,by simp only [execOp];rw [Sem.run_bind,h1];rfl,h2⟩
 | @build T zs ps hT hz hp =>
  have hm:∀ p∈ps.toList,a9 Z μ w (ρ p.2) (a.eval p.2):=fun p hp=>b9 p.2 (by simp [Op.operands];exact⟨p.1,by simpa using hp⟩)
  obtain⟨v,h1,h2⟩:=axI (P:=P) (Z:=Z) (μ:=μ) (w:=w) (a:=a) hT hz hp hm
  exact⟨v,by simp only [execOp];rw [Sem.run_bind,h1];rfl,h2⟩
end
end Go.Lg
namespace Go.Lg
def bK.le (H H':bK):Prop:=∀ b blk,H b=some blk->∃ m,H' b=some ⟨blk.sz,blk.vals,m⟩/\(blk.mt=false->m=false)/\(blk.mt=true->m=false->b≠0)
def n9 (μ:Nat->Option Nat) (d id:Nat):Nat->Option Nat:=fun b=>if b=d then some id else μ b
section
variable {P:Program} {W w w':World} {X:XS} {Z0 Z:Nat->Prop} {μ:Nat->Option Nat} {H:bK}
theorem rn.mono {Z':Nat->Prop} {bc:Nat->Option Nat} {blk:a8} {id:Nat} (hz:∀ id,Z id->Z' id) (hm:∀ b id,μ b=some id->bc b=some id) (hf:Frame Z μ w w')
  (hid:w'.heap[id]?=w.heap[id]?) (h:rn Z μ w blk id):rn Z' bc w' blk id:=by
 obtain⟨c,T,part,rest,h1,h2,h3⟩:=h
 exact⟨c,T,part,rest,hid.trans h1,h2,h3.mono hz hm hf⟩
theorem Core.lt (hc:Core W X Z0 μ Z H w) {b id:Nat} (h:μ b=some id):id<w.heap.size:=by
 obtain⟨blk,_,c,T,part,rest,h1,_⟩:=hc.heap b id h
 exact(Array.getElem?_eq_some_iff.1 h1).1
theorem Core.tO {H':bK} (hc:Core W X Z0 μ Z H w) (hle:H.le H'):∃ Z',Core W X Z0 μ Z' H' w/\(∀ id,Z id->Z' id):=by
 refine⟨fun id=>Z id\/∃ b blk,μ b=some id/\H' b=some blk/\blk.mt=false,⟨hc.cd,?_,fun id h=>.inl (hc.iK id h),?_,hc.inj,hc.own,hc.x0,hc.mC,hc.x1,?_,fun b id blk h1 h2 h3=>.inr ⟨b,blk,h1,h2,h3⟩,?_⟩,fun id h=>.inl h⟩
 ·rintro id (h | ⟨b,blk,h,_⟩)
  ·exact hc.ke id h
  ·exact hc.lt h
 ·rintro id (h | ⟨b,blk,h,h2,h3⟩)
  ·exact hc.ki id h
  ·obtain⟨r8,g1,_⟩:=hc.heap b id h
   obtain⟨m,g2,g3,g4⟩:=hle b r8 g1
   rw [g2] at h2;cases h2
   simp only at h3;subst h3
   cases hm:r8.mt with
   | false=>exact hc.ki id (hc.bR b id r8 h g1 hm)
   | true =>
    rcases hc.own b id h with h | h' | h'
    ·exact .inr (.inl h)
    ·exact absurd (hc.x0 b id h h') (g4 hm rfl)
    ·exact .inr (.inr h')
 ·rintro b id blk h1 h2 h3 (h | ⟨b',blk',h4,h5,h6⟩)
  ·obtain⟨r8,g1,_⟩:=hc.heap b id h1
   obtain⟨m,g2,g3,_⟩:=hle b r8 g1
   rw [g2] at h2;cases h2
   cases hm:r8.mt with
   | false=>have:=g3 hm;subst this;simp at h3
   | true=>exact hc.ir b id r8 h1 g1 hm h
  ·have:=hc.inj b b' id h1 h4
   subst this
   rw [h2] at h5;cases h5
   simp [h3] at h6
 ·intro b id h
  obtain⟨blk,g1,g2⟩:=hc.heap b id h
  obtain⟨m,g3,_⟩:=hle b blk g1
  refine⟨_,g3,?_⟩
  obtain⟨c,T,part,rest,h1,h2,h3⟩:=g2
  exact⟨c,T,part,rest,h1,h2,h3.mono (fun id h=>.inl h) (fun _ _ h=>h) (Frame.refl _ _ _) |>.mono (fun _ h=>h) (fun _ _ h=>h) ⟨fun _ _=>rfl,(Frame.refl Z μ w).m⟩⟩
structure pW (w w':World) (o:Obj):Prop where
 os:w'.os=w.os
 tape:w'.tape=w.tape
 output:w'.output=w.output
 heap:w'.heap=w.heap.push o
theorem pW.old {o:Obj} (h:pW w w' o) {k:Nat} (hk:k<w.heap.size):w'.heap[k]?=w.heap[k]?:=by
 rw [h.heap,Array.getElem?_push,if_neg J]
theorem pW.new {o:Obj} (h:pW w w' o):w'.heap[w.heap.size]?=some o:=by
 rw [h.heap];simp
theorem pW.alloc (w:World) (o:Obj):pW w (w.alloc o) o:=⟨rfl,rfl,rfl,rfl⟩
theorem Core.arM (hc:Core W X Z0 μ Z H w) (hold:∀ k,k<w.heap.size->w'.heap[k]?=w.heap[k]?):Frame Z μ w w' :=
 ⟨fun id h=>hold id (hc.ke id h),fun _ id h c _ _ hh=>⟨c,(hold id (hc.lt h)).trans hh,rfl⟩⟩
theorem Core.push {d:Nat} {blk:a8} {c:Array Value} {T:TypeId} {part rest:List Value} (hc:Core W X Z0 μ Z H w) (hd:H d=some blk) (qP:μ d=none)
  (hp:pW w w' (.cells c T (0,0))) (h1:c.toList=part++rest) (h2:aM Z μ w blk.sz blk.vals part) :
  ∃ Z',Core W X Z0 (n9 μ d w.heap.size) Z' H w'/\(∀ id,Z id->Z' id)/\(∀ b id,μ b=some id->n9 μ d w.heap.size b=some id)/\Frame Z μ w w' /\
   n9 μ d w.heap.size d=some w.heap.size/\w'.heap[w.heap.size]?=some (.cells c T (0,0)):=by
 have wQ:∀ b id,μ b=some id->n9 μ d w.heap.size b=some id:=fun b id h=>by
  unfold n9;split
  ·subst_vars;rw [qP] at h;cases h
  ·exact h
 have dt:=hc.arM (fun k hk=>hp.old hk)
 have hinv:∀ b id,n9 μ d w.heap.size b=some id->(b=d/\id=w.heap.size)\/(b≠d/\μ b=some id):=fun b id h=>by
  unfold n9 at h;split at h
  ·cases h;exact .inl ⟨by assumption,rfl⟩
  ·exact .inr ⟨by assumption,h⟩
 have hzz:∀ id,Z id->(Z id\/(blk.mt=false/\id=w.heap.size)):=fun id h=>.inl h
 refine⟨fun id=>Z id\/(blk.mt=false/\id=w.heap.size),⟨?_,?_,fun id h=>.inl (hc.iK id h),?_,?_,?_,?_,hc.mC,fun id h=>wQ 0 id (hc.x1 id h),?_,?_,?_⟩,hzz,wQ,dt,by simp [n9],hp.new⟩
 ·exact⟨hp.os.trans hc.cd.os,hp.tape.trans hc.cd.tape,hp.output.trans hc.cd.output,by rw [hp.heap,Array.size_push];have:=hc.cd.size;omega,
   fun k hk hx=>(hp.old (by have:=hc.cd.size;omega)).trans (hc.cd.block k hk hx),
   fun k hx c T fz h=>let ⟨c',g1,g2⟩:=hc.cd.sL k hx c T fz h;⟨c',(hp.old (Array.getElem?_eq_some_iff.1 g1).1).trans g1,g2⟩⟩
 ·rintro id (h | ⟨_,rfl⟩)
  ·have:=hc.ke id h;rw [hp.heap,Array.size_push];omega
  ·rw [hp.heap,Array.size_push];omega
 ·rintro id (h | ⟨_,rfl⟩)
  ·exact hc.ki id h
  ·exact .inr (.inl hc.cd.size)
 ·intro b b' id h h'
  rcases hinv b id h with⟨rfl,rfl⟩ | ⟨n1,h1⟩<;>rcases hinv b' _ h' with⟨rfl,e⟩ | ⟨n2,h2⟩
  ·rfl
  ·have:=hc.lt h2;omega
  ·have:=hc.lt h1;omega
  ·exact hc.inj b b' id h1 h2
 ·intro b id h
  rcases hinv b id h with⟨rfl,rfl⟩ | ⟨n1,h1⟩
  ·exact .inl hc.cd.size
  ·exact hc.own b id h1
 ·intro b id h hx
  rcases hinv b id h with⟨rfl,rfl⟩ | ⟨n1,h1⟩
  ·have:=hc.mC _ (.inl hx);have:=hc.cd.size;omega
  ·exact hc.x0 b id h1 hx
 ·rintro b id bk h hb hm (hz | ⟨uz,rfl⟩)
  ·rcases hinv b id h with⟨rfl,rfl⟩ | ⟨n1,h1⟩
   ·have:=hc.ke _ hz;omega
   ·exact hc.ir b id bk h1 hb hm hz
  ·rcases hinv b _ h with⟨rfl,_⟩ | ⟨n1,h1⟩
   ·rw [hd] at hb;cases hb;simp [hm] at uz
   ·have:=hc.lt h1;omega
 ·intro b id bk h hb hm
  rcases hinv b id h with⟨rfl,rfl⟩ | ⟨n1,h1⟩
  ·rw [hd] at hb;cases hb;exact .inr ⟨hm,rfl⟩
  ·exact .inl (hc.bR b id bk h1 hb hm)
 ·intro b id h
  rcases hinv b id h with⟨rfl,rfl⟩ | ⟨n1,h3⟩
  ·exact⟨blk,hd,c,T,part,rest,hp.new,h1,h2.mono hzz wQ dt⟩
  ·obtain⟨bk,g1,g2⟩:=hc.heap b id h3
   exact⟨bk,g1,g2.mono hzz wQ dt (hp.old (hc.lt h3))⟩
end
mutual
inductive cG (H:bK):LV->LV->Prop
 | pure {x} (h:x.pure=true):cG H x x
 | nil (sz):cG H (.v (.slice none 0 0)) (.list sz [])
 | ref {b sz off len blk} (hb:H b=some blk) (hs:blk.sz=sz) (hp:aG blk.vals=true) (hl:off+len<=blk.vals.length) (hf:blk.mt=false) :
   cG H (.ref b sz off len) (.list sz ((blk.vals.drop off).take len))
 | aA {b sz i o blk x y n ag} (hb:H b=some blk) (hs:blk.sz=sz) (hi:blk.vals[i]?=some x) (hx:x.au=sz) (hy:x.at o n ag=some y) (hp:y.pure=true) (hf:blk.mt=false) :
   cG H (.aA b sz i o) (.bV y)
 | agj {b sz off len blk l'} (hb:H b=some blk) (hs:blk.sz=sz) (hl:off+len<=blk.vals.length) (hf:blk.mt=false) (h:eU H ((blk.vals.drop off).take len) l'):cG H (.ref b sz off len) (.list sz l')
 | agg {l l'} (h:eU H l l'):cG H (.agg l) (.agg l')
inductive eU (H:bK):List LV->List LV->Prop
 | nil:eU H [] []
 | cons {x y xs ys} (h:cG H x y) (t:eU H xs ys):eU H (x :: xs) (y :: ys)
end
section
variable {W w:World} {X:XS} {Z0 Z:Nat->Prop} {μ bc:Nat->Option Nat} {H H':bK}
mutual
theorem cG.lay:∀ {x y:LV},cG H x y->y.isAgg=x.isAgg/\y.au=x.au/\y.pure=true
 | _,_,.pure h=>⟨rfl,rfl,h⟩
 | _,_,.nil _=>⟨rfl,rfl,rfl⟩
 | _,_,.ref hb hs hp hl hf=>⟨rfl,rfl,by
   simp only [LV.pure]
   rw [vB] at hp ⊢
   exact fun x hx=>hp x (List.mem_of_mem_drop (List.mem_of_mem_take hx))⟩
 | _,_,.aA hb hs hi hx hy hp hf=>⟨rfl,rfl,by simpa [LV.pure] using hp⟩
 | _,_,.agj hb hs hl hf h=>⟨rfl,rfl,by simpa [LV.pure] using (eU.lay h).2⟩
 | _,_,.agg h=>by
   have:=eU.lay h
   exact⟨rfl,by simp [LV.au,this.1],by simp [LV.pure,this.2]⟩
theorem eU.lay:∀ {x y:List LV},eU H x y->cF y=cF x/\aG y=true
 | _,_,.nil=>⟨rfl,rfl⟩
 | _,_,.cons h t=>by
   have h1:=cG.lay h
   have h2:=eU.lay t
   exact⟨by simp [cF,h1.2.1,h2.1],by simp [aG,h1.2.2,h2.2]⟩
end
theorem eU.len:∀ {x y:List LV},eU H x y->y.length=x.length
 | _,_,.nil=>rfl
 | _,_,.cons _ t=>by simp [eU.len t]
mutual
theorem cG.sound (hc:Core W X Z0 μ Z H w):∀ {x y:LV} {cs:List Value},cG H x y->ay Z μ w x cs->ay Z bc w y cs
 | _,_,_,.pure h,hr=>ay.iY (fun _ h=>h) (fun _ _=>rfl) _ _ h hr
 | _,_,_,.nil sz,hr=>by
   simp only [ay] at hr ⊢
   exact⟨none,0,0,hr.1,rfl,Nat.le_refl _,.inl trivial,rfl⟩
 | _,_,_,@cG.ref _ b sz off len blk hb hs hp hl hf,hr=>by
   simp only [ay] at hr ⊢
   rcases hr with⟨hr,rfl⟩ | ⟨id,cap,c,T,fz,h1,h2,h3,h4,h5⟩
   ·exact⟨none,0,0,hr,by simp,Nat.le_refl _,.inl aO,by simp [aG]⟩
   obtain⟨blk',g1,c',T',part,rest,g2,g3,g4⟩:=hc.heap b id h2
   rw [hb] at g1;cases g1
   rw [h4] at g2;cases g2
   refine⟨_,_,_,h1,by simp;omega,h3,?_,(vB _).2 fun x hx=>(vB _).1 hp x (List.mem_of_mem_drop (List.mem_of_mem_take hx))⟩
   have hz:=hc.bR b id blk h2 hb hf
   right
   obtain⟨c1,c2,d1,d2,d3⟩:=aM.split (blk.vals.take off) (blk.vals.drop off) part aaf
   obtain⟨c3,c4,d4,d5,d6⟩:=aM.split ((blk.vals.drop off).take len) ((blk.vals.drop off).drop len) c2 (by rw [List.take_append_drop];exact d3)
   have jJ:=aM.length _ _ d2
   rw [List.length_take,Nat.min_eq_left J,hs] at jJ
   refine⟨id,off*sz,c,T,(0,0),c3,c4++rest,rfl,hz,h4,?_,?_⟩
   ·rw [g3,d1,d4,<-jJ];simp
   ·rw [hs] at d5
    refine aM.iY (fun _ h=>h) (fun _ _=>rfl) _ _ _ ?_ d5
    rw [vB] at hp ⊢
    exact fun x hx=>hp x (List.mem_of_mem_drop (List.mem_of_mem_take hx))
 | _,_,_,@cG.aA _ b sz i o blk x y n ag hb hs hi hx hy hp hf,hr=>by
   simp only [ay] at hr ⊢
   obtain⟨id,h1,h2⟩:=hr
   obtain⟨blk',g1,c,T,part,rest,g2,g3,g4⟩:=hc.heap b id h2
   rw [hb] at g1;cases g1
   have hz:=hc.bR b id blk h2 hb hf
   obtain⟨ch,post,k1,k2,k3⟩:=aiP (off:=0) (by simpa using g3) g4 hi
   obtain⟨pre,su,sR,j1,j2,j3,j4,j5,j6,j7,j8⟩:=LV.ahr x o n ag y ch hy k3 (by rw [k2,hs,hx])
   refine⟨id,_,c,T,(0,0),su,sR++post,h1,hz,g2,?_,by rw [j3,j6],ay.iY (fun _ h=>h) (fun _ _=>rfl) _ _ hp j4,hp⟩
   rw [Nat.zero_add,hs] at k1
   rw [<-List.drop_drop,k1,j1,<-j2];simp
 | _,_,_,@cG.agj _ b sz off len blk l' hb hs hl hf h,hr=>by
   simp only [ay] at hr ⊢
   have hll:=eU.len h
   have zG:=(eU.lay h).2
   rw [List.length_take,List.length_drop,Nat.min_eq_left J] at hll
   rcases hr with⟨hr,rfl⟩ | ⟨id,cap,c,T,fz,h1,h2,h3,h4,h5⟩
   ·exact⟨none,0,0,hr,hll.symm,Nat.le_refl _,.inl (List.length_eq_zero_iff.1 hll),zG⟩
   obtain⟨blk',g1,c',T',part,rest,g2,g3,g4⟩:=hc.heap b id h2
   rw [hb] at g1;cases g1
   rw [h4] at g2;cases g2
   refine⟨_,_,_,h1,hll.symm,h3,?_,zG⟩
   have hz:=hc.bR b id blk h2 hb hf
   right
   obtain⟨c1,c2,d1,d2,d3⟩:=aM.split (blk.vals.take off) (blk.vals.drop off) part aaf
   obtain⟨c3,c4,d4,d5,d6⟩:=aM.split ((blk.vals.drop off).take len) ((blk.vals.drop off).drop len) c2 (by rw [List.take_append_drop];exact d3)
   have jJ:=aM.length _ _ d2
   rw [List.length_take,Nat.min_eq_left J,hs] at jJ
   refine⟨id,off*sz,c,T,(0,0),c3,c4++rest,rfl,hz,h4,?_,?_⟩
   ·rw [g3,d1,d4,<-jJ];simp
   ·rw [hs] at d5
    exact eU.aln hc h d5
 | _,_,_,.agg h,hr=>by
   simp only [ay] at hr ⊢
   exact eU.sound hc h hr
theorem eU.sound (hc:Core W X Z0 μ Z H w):∀ {x y:List LV} {cs:List Value},eU H x y->b7 Z μ w x cs->b7 Z bc w y cs
 | _,_,_,.nil,hr=>by simpa [b7] using hr
 | _,_,_,.cons h t,hr=>by
   simp only [b7] at hr ⊢
   obtain⟨c1,c2,rfl,h2,h3,h4⟩:=hr
   exact⟨c1,c2,rfl,by rw [h2,(cG.lay h).2.1],cG.sound hc h h3,eU.sound hc t h4⟩
theorem eU.aln (hc:Core W X Z0 μ Z H w) {sz:Nat}:∀ {x y:List LV} {cs:List Value},eU H x y->aM Z μ w sz x cs->aM Z bc w sz y cs
 | _,_,_,.nil,hr=>by simpa [aM] using hr
 | _,_,_,.cons h t,hr=>by
   simp only [aM] at hr ⊢
   obtain⟨c1,c2,rfl,h2,h3,h4⟩:=hr
   exact⟨c1,c2,rfl,h2,cG.sound hc h h3,eU.aln hc t h4⟩
end
mutual
theorem cG.le (hle:H.le H'):∀ {x y:LV},cG H x y->cG H' x y
 | _,_,.pure h=>.pure h
 | _,_,.nil sz=>.nil sz
 | _,_,.ref hb hs hp hl hf=>by
   obtain⟨m,g1,g2,_⟩:=hle _ _ hb
   exact cG.ref (blk:=⟨_,_,m⟩) g1 hs hp hl (g2 hf)
 | _,_,.aA hb hs hi hx hy hp hf=>by
   obtain⟨m,g1,g2,_⟩:=hle _ _ hb
   exact cG.aA (blk:=⟨_,_,m⟩) g1 hs hi hx hy hp (g2 hf)
 | _,_,.agj hb hs hl hf h=>by
   obtain⟨m,g1,g2,_⟩:=hle _ _ hb
   exact cG.agj (blk:=⟨_,_,m⟩) g1 hs hl (g2 hf) (eU.le hle h)
 | _,_,.agg h=>.agg (eU.le hle h)
theorem eU.le (hle:H.le H'):∀ {x y:List LV},eU H x y->eU H' x y
 | _,_,.nil=>.nil
 | _,_,.cons h t=>.cons (cG.le hle h) (eU.le hle t)
end
theorem cG.ne {x y:LV} (h:cG H x y):x≠.any/\∀ l,x≠.a7 l:=by
 cases h with
 | pure h=>exact⟨LV.eF h,LV.dZ h⟩
 | _=>exact⟨by simp,by simp⟩
theorem cG.zk (hc:Core W X Z0 μ Z H w) {x y:LV} {v:Value} (h:cG H x y) (hr:a9 Z μ w x v):eP Z bc w y v:=by
 have h1:=a9.vq h.ne.2 h.ne.1 hr
 obtain⟨e1,_,_⟩:=h.lay
 exact⟨fun e=>let ⟨cs,g1,g2⟩:=h1.1 (e1 ▸ e);⟨cs,g1,cG.sound hc h g2⟩,fun e=>cG.sound hc h (h1.2 (e1 ▸ e))⟩
end
end Go.Lg
end
