/- Texts LgE of this proof, joined. -/
import Derived.Orders
import Derived.Below
import Derived.Deep.MidRow
import Derived.Deep.AppendSrc
import Derived.Laws.MakeOwn
import Derived.WalkKit
import Derived.Laws.Externs
import Derived.Laws.BytesString
import Derived.Laws.Cells
set_option linter.unusedVariables false
set_option linter.unusedSimpArgs false
namespace Go.Lg
theorem ki {p:Prop} (h:p:=by repeat (first | exact mk_id' cl | refine put_id' ?_ cl)):p:=h
theorem aL {α:Type} {a b:α} (h:a=b:=by repeat (first | exact mk_id' cl | refine put_id' ?_ cl)):b=a:=h.symm
theorem J {p:Prop} (h:p:=by omega):p:=h
theorem bf {p:Prop} (h:p:=by exact ret1 rfl (by first | exact .pure rfl | exact .pure (limL_pure _) | exact .pure (magL_pure _) | exact .pure (ratE.pure _) | exact .pure (pure_lst u32E _ _) | exact .pure (pure_lst ratE _ _))):p:=h
theorem aik {p:Prop} (h:p:=by first | exact .pure rfl | exact .pure (limL_pure _) | exact .pure (magL_pure _) | exact .pure (ratE.pure _) | exact .pure (pure_lst u32E _ _) | exact .pure (pure_lst ratE _ _)):p:=h
theorem ah {p:Prop} (h:p:=by decide +kernel):p:=h
theorem ae {p:Prop} (h:p:=by decide):p:=h
theorem agv {p:Prop} (h:p:=by exact .appX (d:=100) (news:=[prL (eo.getD i [])]) rfl rfl rfl rfl (by simp only [kills_map prE,List.length_map,List.length_take,List.length_cons,List.length_nil];omega) (.inl rfl) (by decide) Tryz.underlying27 Tryz.underlying27 prZ T59 cs B59 (.inl ⟨39,0,_,rfl,by decide,rfl,rfl,by simp,rfl,by simp [pures,prE.pure]⟩) (by simp only [kills_map prE,List.length_map,List.length_take,List.length_cons,List.length_nil];omega) (by simp only [kills_map prE,List.length_map,List.length_take,List.length_cons,List.length_nil];omega) (by decide)):p:=h
theorem ad4 {p:Prop} (h:p:=by exact .bin rfl rfl (add1N (by omega))):p:=h
theorem rO {p:Prop} (h:p:=by exact nx4 st (x :: jk) (m+1) (cw++[celB na x (lk (x.1.take na) (x.1.drop na))]) ⟨(stw_done (D:=D) (wd:=wd) rZ tJ (by first | exact doneA (by omega) qV | exact doneW (by omega) (by simpa using sC) | exact doneC (by omega)) ▸ sZ),uc,by omega,(by simp only [List.length_append,List.length_cons,List.length_nil];omega)⟩ (he:=((((Weak.kill _ 10).trans (Weak.kill _ 11)).trans (Weak.kill _ 143))).trans (Weak.of_eq (put_id' (put_id' (put_id' (put_id' (mk_id' (by first | exact cl | (refine zSm ?_;refine hp_ext ?_ ?_<;>repeat (first | exact trivial | refine And.intro rfl ?_)))) cl) cl) cl) cl)))):p:=h
theorem lJ {p:Prop} (h:p:=by simp only [kills_map prE,List.length_map,List.length_take,List.length_cons,List.length_nil];omega):p:=h
theorem cy {p:Prop} (h:p:=by exact retC [] rfl rfl rfl (ratE.csize _) (ratL_all _) T32 (.pure (ratE.pure _))):p:=h
theorem aeJ {p:Prop} (h:p:=by exact .appX (d:=1) (news:=[.agg [.list 6 ((x.1.take na).map spL),.list 6 ((x.1.drop na).map spL),nI64 (kindV (lk (x.1.take na) (x.1.drop na))),nI64 (kV (lk (x.1.take na) (x.1.drop na)))]]) rfl rfl rfl rfl (by simp) (.inl rfl) (by decide) Tryz.underlying36 Tryz.underlying36 celZ T46 rfl B46 (.inl ⟨143,0,_,rfl,by decide,rfl,rfl,by simp,rfl,afz⟩) (by simp;omega) (by simp;omega) (by decide)):p:=h
theorem al {p:Prop} (h:p:=by simp;omega):p:=h
theorem bH {p:Prop} (h:p:=by simp [LV.pure,pures,pures_map ratE,pures_map prE]):p:=h
theorem bJ {p:Prop} (h:p:=by simp [LV.csize,csizes,spE.csize,ratE.csize]):p:=h
theorem aE {p:Prop} (h:p:=by simp [Op.operands]):p:=h
theorem ox {p:Prop} (h:p:=by first | exact cl | (refine zSm ?_;refine hp_ext ?_ ?_<;>repeat (first | exact trivial | refine And.intro rfl ?_))):p:=h
theorem rR {p:Prop} (h:p:=by first | omega | (simp only [List.length_map];omega)):p:=h
theorem wN {p:Prop} (h:p:=by exact retC [13,20,25,26] rfl rfl rfl cs (at_all cs rfl) T29 (.agg (.cons (.pure rfl) (.cons (.pure rfl) (.cons (.pure gW) (.cons (imm_refm (l:=kn2 1 0 1) ratE rfl rfl rfl) (.cons (.refI (blk:=⟨1,_,false⟩) rfl rfl (Nat.le_of_ble_eq_true rfl) rfl (.cons (imm_refm (l:=[(⟨a,1⟩:PoR),⟨c,1⟩]) poE rfl rfl rfl) (.cons (imm_refm (l:=[(⟨b,1⟩:PoR),⟨d,1⟩]) poE rfl rfl rfl) .nil))) .nil))))))):p:=h
theorem aj {p:Prop} (h:p:=by simp):p:=h
theorem aeH {p:Prop} (h:p:=by exact .appX (d:=32) (news:=(eo.getD i []).map poL) rfl rfl rfl rfl (by simp) (.inl rfl) (by decide) Tryz.underlying59 Tryz.underlying59 Z119 T119 cs B119 (.inr (.inl rfl)) (by simp only [List.length_map];omega) (by simp only [List.length_map];omega) (by decide)):p:=h
theorem aec {p:Prop} (h:p:=by exact .build (zs:=[.v (.int .i64 0),.v (.int .i64 0),.v (.slice none 0 0),.v (.slice none 0 0),.v (.slice none 0 0)]) SL29 Z29 (by simp only [List.forall_mem_cons];exact⟨⟨_,rfl,rfl,ne0⟩,⟨_,rfl,rfl,ne0⟩,⟨_,rfl,rfl,ne0⟩,⟨_,rfl,rfl,ne0⟩,⟨_,rfl,rfl,ne0⟩,fun _ h=>by cases h⟩)):p:=h
theorem cM {p:Prop} (h:p:=by first | assumption | exact lim_dig _):p:=h
theorem iW {p:Prop} (h:p:=by exact retC [] rfl rfl rfl (spE.csize _) (spL_all _) T48 (.pure (spE.pure _))):p:=h
theorem cq {p:Prop} (h:p:=by exact nx1 (i+1) (by omega)):p:=h
theorem afi {p:Prop} (h:p:=by exact .bin rfl rfl (sub1N (by omega) (by omega))):p:=h
theorem dI {p:Prop} (h:p:=by simp [Op.operands,Call.operands]):p:=h
theorem ay {p:Prop} (h:p:=by grind):p:=h
theorem aah {p:Prop} (h:p:=by exact .appX (d:=26) (news:=[boxL (hiB x),boxL (loB x)]) rfl rfl rfl rfl (by simp) (.inl rfl) (by decide) Tryz.underlying147 Tryz.underlying147 boxZ T146 rfl B146 (.inl ⟨155,0,_,rfl,by decide,rfl,rfl,by simp,rfl,by simp [pures,boxL_pure]⟩) (by simp;omega) (by simp;omega) (by decide)):p:=h
theorem dS {p:Prop} (h:p:=by exact ret1 rfl (.pure rfl)):p:=h
theorem aia {p:Prop} (h:p:=by simp only [List.forall_mem_cons];exact⟨⟨_,rfl,rfl,ne0⟩,⟨_,rfl,rfl,ne0⟩,⟨_,rfl,rfl,ne0⟩,⟨_,rfl,rfl,ne0⟩,⟨_,rfl,rfl,ne0⟩,fun _ h=>by cases h⟩):p:=h
theorem aho {p:Prop} (h:p:=by first | exact doneA (by omega) qV | exact doneW (by omega) (by simpa using sC) | exact doneC (by omega)):p:=h
theorem pL {p:Prop} (h:p:=by first | omega | (simp only [iK,iT,jq,iZ];omega)):p:=h
theorem tq {p:Prop} (h:p:=by first | exact .sliceLh (h:=_) u32E rfl Tryz.underlying30 T179 rfl om | exact .sliceRh rfl Tryz.underlying30 T179 rfl om om):p:=h
theorem mo {p:Prop} (h:p:=by exact .bin rfl rfl (add64 (by omega) (by omega))):p:=h
theorem kA {p:Prop} (h:p:=by exact .bin rfl rfl (sub64 (by omega) (by omega))):p:=h
theorem qy {p:Prop} (h:p:=by exact ⟨[],cs,[],by simp,rfl,by rw [hl,hd,h2];rfl,by simpa using hy,by rw [h2];rfl⟩):p:=h
theorem ym {p:Prop} (h:p:=by exact ⟨_,trivial,((put_id' (put_id' (put_id' ki (by first | exact jI | exact jI.symm | (refine zSm ?_;first | exact jI | exact jI.symm))) cl) cl)).symm⟩):p:=h
theorem adI {p:Prop} (h:p:=by intro p hp;simp only [List.mem_cons,List.not_mem_nil,or_false] at hp;rcases hp with rfl | rfl<;>exact⟨by decide,rfl,(fun h=>by cases h),(fun _ h=>by cases h)⟩):p:=h
theorem vg {p:Prop} (h:p:=by exact retC [] rfl rfl rfl rfl rfl T32 (.agg (.cons (.pure rfl) (.cons (.pure (magL_pure _)) (.cons (.pure (magL_pure _)) .nil))))):p:=h
theorem r7 {p:Prop} (h:p:=by exact ⟨[],cs,[],by simp,rfl,by simpa [LV.csize] using hl,hr,rfl,rfl,by simp,by simp⟩):p:=h
theorem ko {p:Prop} (h:p:=by first | omega | (simp;done) | (simp;omega)):p:=h
theorem nh {p:Prop} (h:p:=by exact retC [] rfl rfl rfl cs (at_all cs rfl) T54 (.pure pu)):p:=h
theorem tr {p:Prop} (h:p:=by simp only [kills_map poE,List.length_map,List.length_take,List.length_cons,List.length_nil];omega):p:=h
theorem aeV {p:Prop} (h:p:=by exact .build0 SL32 Z32a):p:=h
theorem n9 {p:Prop} (h:p:=by simp [LV.pure,pures,pures_map ratE,pures_map prE,-List.map_map]):p:=h
theorem afd {p:Prop} (h:p:=by simp only [List.length_append,List.length_cons,List.length_nil];omega):p:=h
theorem acw {p:Prop} (h:p:=by exact .appX (d:=8) (news:=[ratL (p.getD k 0)]) rfl rfl rfl rfl (by simp;omega) (.inl rfl) (by decide) Tryz.underlying26 Tryz.underlying26 Z32a T32 rfl B32 (.inl ⟨19,0,_,rfl,by decide,rfl,rfl,by simp,rfl,by simp [pures,ratE.pure]⟩) (by simp;omega) (by simp;omega) (by decide)):p:=h
theorem lg {p:Prop} (h:p:=by exact .bin rfl rfl (add64N (by omega))):p:=h
theorem oX {p:Prop} (h:p:=by rw [hc];exact Nat.le_mul_of_pos_right _ (Nat.succ_pos V)):p:=h
theorem od {p:Prop} (h:p:=by rw [hc];exact Nat.le_mul_of_pos_left _ (Nat.succ_pos U)):p:=h
theorem aa6 {p:Prop} (h:p:=by exact .sliceR (a:=i+1) (h:=k.length+1) rfl Tryz.underlying26 T32 (fun y hy=>by cases hy;exact⟨_,rfl⟩) (fun h=>by cases h) (fun y hy=>by cases hy) (fun _=>rfl) om om om):p:=h
theorem aav {p:Prop} (h:p:=by exact .sliceR (a:=i) (h:=k.length+1) rfl Tryz.underlying26 T32 (fun y hy=>by cases hy;exact⟨_,rfl⟩) (fun h=>by cases h) (fun y hy=>by cases hy) (fun _=>rfl) om om om):p:=h
theorem sH {p:Prop} (h:p:=by exact .bin rfl rfl (mulU (by first | omega | (simp only [iK,iT,jq,iZ];omega)))):p:=h
theorem vi {p:Prop} (h:p:=by exact retCT [] rfl rfl rfl (ratE.csize _) (ratL_all _) T32 (.pure (ratE.pure _)) rfl (.pure rfl)):p:=h
theorem tn {p:Prop} (h:p:=by exact retMC rfl rfl cs (at_all cs rfl) T119 (.pure pu) rfl rfl (dice_pure l _)):p:=h
theorem pn {p:Prop} (h:p:=by exact .loadE rfl rfl rfl rfl cs (at_all cs rfl) T29):p:=h
theorem ach {p:Prop} (h:p:=by exact .app rfl rfl rfl rfl rfl (Nat.zero_le _) (.inr rfl) (by decide) Tryz.underlying30 Tryz.underlying30 Z179 T179 rfl B179 (.inr (.inl rfl)) (by first | (simp;done) | (simp;omega)) (by first | (simp;done) | (simp;omega)) (by decide)):p:=h
theorem aaL {p:Prop} (h:p:=by exact ⟨_,rfl,by rw [h0];simp [lay,ratE.csize,ratE.isAgg],by rw [h0];exact LV.pure_ne_any (ratE.pure _),by rw [h0];exact LV.pure_ne_tup (ratE.pure _)⟩):p:=h
theorem nF {p:Prop} (h:p:=by first | omega | (simp only [val_dig];omega)):p:=h
theorem m9 {p:Prop} (h:p:=by first | (simp;done) | (simp;omega) | omega):p:=h
theorem dX {p:Prop} (h:p:=by simpa using h):p:=h
theorem uN {p:Prop} (h:p:=by exact ret3f [] rfl rfl (.pure (magL_pure _)) rfl (.pure (magL_pure _)) rfl (.pure rfl)):p:=h
theorem ahs {p:Prop} (h:p:=by simp only [List.length_map];omega):p:=h
theorem cX {p:Prop} (h:p:=by kernel_rfl):p:=h
theorem zp {p:Prop} (h:p:=by exact retCC [] rfl rfl rfl (spE.csize _) (spL_all _) T48 (.pure (spE.pure _)) rfl rfl (spE.csize _) (spL_all _) T48 (.pure (spE.pure _))):p:=h
theorem qt {p:Prop} (h:p:=by simp [LV.pure,pures,pures_map ratE,pures_map poE]):p:=h
theorem td {p:Prop} (h:p:=by exact retC [] rfl rfl rfl rfl rfl T239 (.pure (net_pureN _ _ _))):p:=h
theorem we {p:Prop} (h:p:=by first | rfl | (rw [adb];rfl)):p:=h
theorem k6 {p:Prop} (h:p:=by exact ⟨_,trivial,aL⟩):p:=h
theorem ah0 {p:Prop} (h:p:=by first | exact jI | exact jI.symm | (refine zSm ?_;first | exact jI | exact jI.symm)):p:=h
theorem abO {p:Prop} (h:p:=by simp only [LV.kill,kills,ptL_kill,ratL_kill];simp [LV.csize,csizes,ratE.csize,ptE.csize]):p:=h
theorem kM {p:Prop} (h:p:=by rw [rwL_len hc hi];omega):p:=h
theorem lN {p:Prop} (h:p:=by rw [List.length_map];omega):p:=h
theorem aaI {p:Prop} (h:p:=by first | omega | (simp only [List.length_map,jr];omega)):p:=h
theorem acy {p:Prop} (h:p:=by simp only [LV.kill,kills,ptL_kill,ratL_kill];simp [LV.pure,pures,ratE.pure,ptE.pure]):p:=h
theorem ny {p:Prop} (h:p:=by simp [LV.pure,pures,ratE.pure]):p:=h
theorem o5 {p:Prop} (h:p:=by simp [LV.csize,csizes,ratE.csize]):p:=h
theorem aa4 {p:Prop} (h:p:=by simp only [kills_map (crE V kV),List.length_map,List.length_take,List.length_cons,List.length_nil];omega):p:=h
theorem aai {p:Prop} (h:p:=by simp only [kills_map (slE U kU),List.length_map,List.length_take,List.length_cons,List.length_nil];omega):p:=h
theorem mH {p:Prop} (h:p:=by exact nx1 (j+1) (by omega)):p:=h
theorem ob {p:Prop} (h:p:=by clear b1 b2 b3 b4 k1 k2 hW;grind):p:=h
theorem ui {p:Prop} (h:p:=by exact retC [] rfl rfl rfl rfl rfl T32 (.pure rfl)):p:=h
theorem rX {p:Prop} (h:p:=by exact .bin rfl rfl (mulE rfl (by omega))):p:=h
theorem gR {p:Prop} (h:p:=by exact .inl h):p:=h
theorem lj {p:Prop} (h:p:=by rw [kn2_len];omega):p:=h
theorem rK {p:Prop} (h:p:=by rw [List.take_append_drop];exact g4):p:=h
theorem uj {p:Prop} (h:p:=by exact .bin rfl rfl (quoU (by omega) (by omega))):p:=h
theorem qi {p:Prop} (h:p:=by exact nx1 (k+1) (by omega)):p:=h
theorem eE {p:Prop} (h:p:=by exact guardX (v:=true) rfl rfl ((rfl)) rfl):p:=h
theorem fi {p:Prop} (h:p:=by exact guardX (v:=true) rfl rfl ((decide_eq_true J)) rfl):p:=h
theorem ij {p:Prop} (h:p:=by exact guardX (v:=false) rfl rfl ((decide_eq_false J)) rfl):p:=h
theorem ik {p:Prop} (h:p:=by exact guardX (v:=true) rfl rfl ((decide_eq_true rR)) rfl):p:=h
theorem jz {p:Prop} (h:p:=by exact guardX (v:=false) rfl rfl ((rfl)) rfl):p:=h
theorem oD {p:Prop} (h:p:=by exact guardX (v:=false) rfl rfl ((decide_eq_false c1)) rfl):p:=h
theorem tO {p:Prop} (h:p:=by exact guardX (v:=false) rfl rfl (we) rfl):p:=h
theorem uf {p:Prop} (h:p:=by exact guardX (v:=false) rfl rfl ((beq_eq_false_iff_ne.2 J)) rfl):p:=h
theorem uv {p:Prop} (h:p:=by exact guardX (v:=true) rfl rfl ((beq_iff_eq.2 rR)) rfl):p:=h
theorem xe {p:Prop} (h:p:=by exact guardX (v:=true) rfl rfl ((decide_eq_true aaI)) rfl):p:=h
theorem xS {p:Prop} (h:p:=by exact guardX (v:=false) rfl rfl ((bne_eq_false_iff_eq.2 rR)) rfl):p:=h
theorem aaY {p:Prop} (h:p:=by exact guardX (v:=false) rfl rfl ((by rw [ni];rfl)) rfl):p:=h
theorem aaW {p:Prop} (h:p:=by exact guardX (v:=true) rfl rfl ((by rw [ni];rfl)) rfl):p:=h
theorem aa8 {p:Prop} (h:p:=by exact guardX (v:=true) rfl rfl (we) rfl):p:=h
end Go.Lg
open Array renaming ext'->l8,getElem?_eq_some_iff->eB,getElem?_toList->tA,length_toList->gG,map->vm,size_push->yZ
open BitVec renaming ofInt->kD
open Decidable renaming not_not->afB
open List renaming append_nil->aS,cons_append->aby,drop_append->aeo,drop_drop->je,drop_of_length_le->ep,getElem?_cons_zero->ke,getElem?_eq_getElem->aB,getElem?_eq_some_iff->fV,getElem?_map->bU,length_append->cZ,length_cons->aQ,length_map->aA,length_nil->bc,length_take->bZ,map_cons->gA,map_nil->bh,mem_map->bS,mem_of_getElem?->jZ,mem_of_mem_drop->oH,mem_of_mem_take->oM,nil_append->aR,replicate->ai,set_cons_succ->aK,set_cons_zero->aN,take_append_drop->kK,take_nil->aZ,take_succ_cons->pk
open List.cons renaming injEq->b7
open Nat renaming add_assoc->fT,add_mul->cI,add_zero->iH,le_refl->an,min_eq_left->eP,reduceAdd->au,reduceBEq->aq,reduceEqDiff->aO,reduceMul->ar,zero_add->cJ
open Option renaming map_eq_some_iff->oz,map_none->aaK,map_some->ju
open Option.some renaming injEq->bF
open Prod.mk renaming injEq->vU
section
set_option linter.unusedVariables false
set_option linter.unusedSimpArgs false
namespace Go.Lg
inductive LV where
 | any
 | v (x:Value)
 | list (sz:Nat) (l:List LV)
 | agg (l:List LV)
 | ref (b sz off len:Nat)
 | refc (b sz off len cap:Nat)
 | eptr (b sz i o:Nat)
 | boxp (c:LV)
 | clo (f:FuncId) (cap:List LV)
 | tup (l:List LV)
instance:Inhabited LV:=⟨.any⟩
mutual
def LV.csize:LV->Nat
 | .agg l=>csizes l
 | _=>1
def csizes:List LV->Nat
 | []=>0
 | x :: xs=>x.csize+csizes xs
end
def LV.isAgg:LV->Bool
 | .agg _=>true
 | _=>false
mutual
def LV.pure:LV->Bool
 | .ref ..=>false
 | .refc ..=>false
 | .eptr ..=>false
 | .tup _=>false
 | .any=>false
 | .v _=>true
 | .list _ l=>pures l
 | .agg l=>pures l
 | .boxp c=>c.pure
 | .clo _ l=>pures l
def pures:List LV->Bool
 | []=>true
 | x :: xs=>x.pure && pures xs
end
theorem pures_iff (l:List LV):pures l=true↔∀ x∈l,x.pure=true:=by
 induction l with
 | nil=>simp [pures]
 | cons x xs ih=>simp [pures,ih]
mutual
def Rep (Z:Nat->Prop) (μ:Nat->Option Nat) (w:World):LV->List Value->Prop
 | .any,cs=>∀ u∈cs,u.oneCell'=true
 | .v x,cs=>cs=[x]/\x.oneCell'=true
 | .list sz l,cs=>∃ a len cap,cs=[.slice a len cap]/\len=l.length/\len<=cap /\
   (l=[]\/∃ blk off c T fz part rest,a=some ⟨blk,off,none⟩/\Z blk/\w.heap[blk]?=some (.cells c T fz) /\
    c.toList.drop off=part++rest/\RepAll Z μ w sz l part)/\pures l=true
 | .agg l,cs=>RepFs Z μ w l cs
 | .ref b sz off len,cs=>(cs=[.slice none 0 0]/\len=0)\/∃ id cap c T fz,cs=[.slice (some ⟨id,off*sz,none⟩) len cap]/\μ b=some id/\len<=cap /\
   w.heap[id]?=some (.cells c T fz)/\(off+cap)*sz<=c.size
 | .refc b sz off len cap,cs=>∃ id c T fz,cs=[.slice (some ⟨id,off*sz,none⟩) len cap]/\μ b=some id/\len<=cap /\
   w.heap[id]?=some (.cells c T fz)/\(off+cap)*sz<=c.size
 | .eptr b sz i o,cs=>∃ id,cs=[.pointer (some ⟨id,i*sz+o,none⟩)]/\μ b=some id
 | .boxp c,cs=>∃ blk off cc T fz part rest,cs=[.pointer (some ⟨blk,off,none⟩)]/\Z blk/\w.heap[blk]?=some (.cells cc T fz) /\
   cc.toList.drop off=part++rest/\part.length=c.csize/\Rep Z μ w c part/\c.pure=true
 | .clo f cap,cs=>∃ vs,cs=[.func (.func f) #[] vs]/\RepAll Z μ w 1 cap vs.toList/\pures cap=true
 | .tup _,_=>False
def RepAll (Z:Nat->Prop) (μ:Nat->Option Nat) (w:World) (sz:Nat):List LV->List Value->Prop
 | [],cs=>cs=[]
 | x :: xs,cs=>∃ c1 c2,cs=c1++c2/\c1.length=sz/\Rep Z μ w x c1/\RepAll Z μ w sz xs c2
def RepFs (Z:Nat->Prop) (μ:Nat->Option Nat) (w:World):List LV->List Value->Prop
 | [],cs=>cs=[]
 | x :: xs,cs=>∃ c1 c2,cs=c1++c2/\c1.length=x.csize/\Rep Z μ w x c1/\RepFs Z μ w xs c2
end
def RepV1 (Z:Nat->Prop) (μ:Nat->Option Nat) (w:World) (lv:LV) (v:Value):Prop :=
 (lv.isAgg=true->∃ cs,v=.agg cs/\Rep Z μ w lv cs.toList)/\(lv.isAgg=false->Rep Z μ w lv [v])
def RepVL (Z:Nat->Prop) (μ:Nat->Option Nat) (w:World):List LV->List Value->Prop
 | [],vs=>vs=[]
 | x :: xs,vs=>∃ v dK,vs=v :: dK/\RepV1 Z μ w x v/\RepVL Z μ w xs dK
def RepV (Z:Nat->Prop) (μ:Nat->Option Nat) (w:World):LV->Value->Prop
 | .tup l,v=>∃ vs,v=.tuple vs/\RepVL Z μ w l vs.toList
 | .any,_=>True
 | lv,v=>RepV1 Z μ w lv v
structure Frame (Z:Nat->Prop) (μ:Nat->Option Nat) (w w':World):Prop where
 z:∀ id,Z id->w'.heap[id]?=w.heap[id]?
 m:∀ b id,μ b=some id->∀ c T fz,w.heap[id]?=some (.cells c T fz)->∃ c',w'.heap[id]?=some (.cells c' T fz)/\c'.size=c.size
theorem Frame.refl (Z:Nat->Prop) (μ:Nat->Option Nat) (w:World):Frame Z μ w w:=⟨fun _ _=>rfl,fun _ _ _ c _ _ h=>⟨c,h,rfl⟩⟩
section
variable {Z Z':Nat->Prop} {μ av:Nat->Option Nat} {w w':World}
mutual
theorem Rep.mono (hz:∀ id,Z id->Z' id) (hm:∀ b id,μ b=some id->av b=some id) (hf:Frame Z μ w w') :
  ∀ (lv:LV) (cs:List Value),Rep Z μ w lv cs->Rep Z' av w' lv cs
 | .any,_,h=>by simpa [Rep] using h
 | .v x,cs,h=>by simpa [Rep] using h
 | .list sz l,cs,h=>by
   simp only [Rep] at h ⊢;obtain⟨a,len,cap,h1,h2,h3,h4,h9⟩:=h;refine⟨a,len,cap,h1,h2,h3,?_,h9⟩;rcases h4 with h4 | ⟨blk,off,c,T,fz,part,rest,e1,e2,e3,e4,e5⟩
   ·exact .inl h4
   exact .inr ⟨blk,off,c,T,fz,part,rest,e1,hz _ e2,(hf.z _ e2).trans e3,e4,RepAll.mono hz hm hf sz l part e5⟩
 | .agg l,cs,h=>by
   simp only [Rep] at h ⊢;exact RepFs.mono hz hm hf l cs h
 | .ref b sz off len,cs,h=>by
   simp only [Rep] at h ⊢;rcases h with h | ⟨id,cap,c,T,fz,h1,h2,h3,h4,h5⟩
   ·exact gR
   obtain⟨c',h6,h7⟩:=hf.m b id h2 c T fz h4;exact .inr ⟨id,cap,c',T,fz,h1,hm _ _ h2,h3,h6,J⟩
 | .refc b sz off len cap,cs,h=>by
   simp only [Rep] at h ⊢;obtain⟨id,c,T,fz,h1,h2,h3,h4,h5⟩:=h;obtain⟨c',h6,h7⟩:=hf.m b id h2 c T fz h4;exact⟨id,c',T,fz,h1,hm _ _ h2,h3,h6,J⟩
 | .eptr b sz i o,cs,h=>by
   simp only [Rep] at h ⊢;obtain⟨id,h1,h2⟩:=h;exact⟨id,h1,hm _ _ h2⟩
 | .boxp c,cs,h=>by
   simp only [Rep] at h ⊢;obtain⟨blk,off,cc,T,fz,part,rest,h1,h2,h3,h4,h5,h6,h7⟩:=h;exact⟨blk,off,cc,T,fz,part,rest,h1,hz _ h2,(hf.z _ h2).trans h3,h4,h5,Rep.mono hz hm hf c part h6,h7⟩
 | .clo f cap,cs,h=>by
   simp only [Rep] at h ⊢;obtain⟨vs,h1,h2,h3⟩:=h;exact⟨vs,h1,RepAll.mono hz hm hf 1 cap vs.toList h2,h3⟩
 | .tup _,_,h=>by simp [Rep] at h
theorem RepAll.mono (hz:∀ id,Z id->Z' id) (hm:∀ b id,μ b=some id->av b=some id) (hf:Frame Z μ w w') (sz:Nat) :
  ∀ (l:List LV) (cs:List Value),RepAll Z μ w sz l cs->RepAll Z' av w' sz l cs
 | [],cs,h=>by simpa [RepAll] using h
 | x :: xs,cs,h=>by
   simp only [RepAll] at h ⊢;obtain⟨c1,c2,h1,h2,h3,h4⟩:=h;exact⟨c1,c2,h1,h2,Rep.mono hz hm hf x c1 h3,RepAll.mono hz hm hf sz xs c2 h4⟩
theorem RepFs.mono (hz:∀ id,Z id->Z' id) (hm:∀ b id,μ b=some id->av b=some id) (hf:Frame Z μ w w') :
  ∀ (l:List LV) (cs:List Value),RepFs Z μ w l cs->RepFs Z' av w' l cs
 | [],cs,h=>by simpa [RepFs] using h
 | x :: xs,cs,h=>by
   simp only [RepFs] at h ⊢;obtain⟨c1,c2,h1,h2,h3,h4⟩:=h;exact⟨c1,c2,h1,h2,Rep.mono hz hm hf x c1 h3,RepFs.mono hz hm hf xs c2 h4⟩
end
theorem pure_cons {x:LV} {xs:List LV} (h:pures (x :: xs)=true):x.pure=true/\pures xs=true:=by simpa [pures] using h
mutual
theorem Rep.repure (hz:∀ id,Z id->Z' id) (hf:∀ id,Z id->w'.heap[id]?=w.heap[id]?) :
  ∀ (lv:LV) (cs:List Value),lv.pure=true->Rep Z μ w lv cs->Rep Z' av w' lv cs
 | .any,_,_,h=>by simpa [Rep] using h
 | .v x,cs,_,h=>by simpa [Rep] using h
 | .list sz l,cs,hp,h=>by
   simp only [Rep] at h ⊢;obtain⟨a,len,cap,h1,h2,h3,h4,h9⟩:=h;refine⟨a,len,cap,h1,h2,h3,?_,h9⟩;rcases h4 with h4 | ⟨blk,off,c,T,fz,part,rest,e1,e2,e3,e4,e5⟩
   ·exact .inl h4
   exact .inr ⟨blk,off,c,T,fz,part,rest,e1,hz _ e2,(hf _ e2).trans e3,e4,RepAll.repure hz hf sz l part (by simpa [LV.pure] using hp) e5⟩
 | .agg l,cs,hp,h=>by
   simp only [Rep] at h ⊢;exact RepFs.repure hz hf l cs (by simpa [LV.pure] using hp) h
 | .ref b sz off len,cs,hp,_=>by simp [LV.pure] at hp
 | .refc b sz off len cap,cs,hp,_=>by simp [LV.pure] at hp
 | .eptr b sz i o,cs,hp,_=>by simp [LV.pure] at hp
 | .boxp c,cs,hp,h=>by
   simp only [Rep] at h ⊢;obtain⟨blk,off,cc,T,fz,part,rest,h1,h2,h3,h4,h5,h6,h7⟩:=h;exact⟨blk,off,cc,T,fz,part,rest,h1,hz _ h2,(hf _ h2).trans h3,h4,h5,Rep.repure hz hf c part (by simpa [LV.pure] using hp) h6,h7⟩
 | .clo f cap,cs,hp,h=>by
   simp only [Rep] at h ⊢;obtain⟨vs,h1,h2,h3⟩:=h;exact⟨vs,h1,RepAll.repure hz hf 1 cap vs.toList (by simpa [LV.pure] using hp) h2,h3⟩
 | .tup _,_,_,h=>by simp [Rep] at h
theorem RepAll.repure (hz:∀ id,Z id->Z' id) (hf:∀ id,Z id->w'.heap[id]?=w.heap[id]?) (sz:Nat) :
  ∀ (l:List LV) (cs:List Value),pures l=true->RepAll Z μ w sz l cs->RepAll Z' av w' sz l cs
 | [],cs,_,h=>by simpa [RepAll] using h
 | x :: xs,cs,hp,h=>by
   simp only [RepAll] at h ⊢;obtain⟨c1,c2,h1,h2,h3,h4⟩:=h;exact⟨c1,c2,h1,h2,Rep.repure hz hf x c1 (pure_cons hp).1 h3,RepAll.repure hz hf sz xs c2 (pure_cons hp).2 h4⟩
theorem RepFs.repure (hz:∀ id,Z id->Z' id) (hf:∀ id,Z id->w'.heap[id]?=w.heap[id]?) :
  ∀ (l:List LV) (cs:List Value),pures l=true->RepFs Z μ w l cs->RepFs Z' av w' l cs
 | [],cs,_,h=>by simpa [RepFs] using h
 | x :: xs,cs,hp,h=>by
   simp only [RepFs] at h ⊢;obtain⟨c1,c2,h1,h2,h3,h4⟩:=h;exact⟨c1,c2,h1,h2,Rep.repure hz hf x c1 (pure_cons hp).1 h3,RepFs.repure hz hf xs c2 (pure_cons hp).2 h4⟩
end
theorem RepV1.mono (hz:∀ id,Z id->Z' id) (hm:∀ b id,μ b=some id->av b=some id) (hf:Frame Z μ w w') {lv:LV} {v:Value}
  (h:RepV1 Z μ w lv v):RepV1 Z' av w' lv v :=
 ⟨fun e=>let ⟨cs,h1,h2⟩:=h.1 e;⟨cs,h1,Rep.mono hz hm hf _ _ h2⟩,fun e=>Rep.mono hz hm hf _ _ (h.2 e)⟩
theorem RepVL.mono (hz:∀ id,Z id->Z' id) (hm:∀ b id,μ b=some id->av b=some id) (hf:Frame Z μ w w') :
  ∀ (l:List LV) (vs:List Value),RepVL Z μ w l vs->RepVL Z' av w' l vs
 | [],_,h=>h
 | _ :: xs,_,⟨v,dK,h1,h2,h3⟩=>⟨v,dK,h1,h2.mono hz hm hf,RepVL.mono hz hm hf xs dK h3⟩
theorem RepV.mono (hz:∀ id,Z id->Z' id) (hm:∀ b id,μ b=some id->av b=some id) (hf:Frame Z μ w w') {lv:LV} {v:Value}
  (h:RepV Z μ w lv v):RepV Z' av w' lv v:=by
 cases lv with
 | tup l=>obtain⟨vs,h1,h2⟩:=h;exact⟨vs,h1,h2.mono hz hm hf⟩
 | any=>trivial
 | _=>exact RepV1.mono hz hm hf h
theorem RepV1.repure (hz:∀ id,Z id->Z' id) (hf:∀ id,Z id->w'.heap[id]?=w.heap[id]?) {lv:LV} {v:Value} (hp:lv.pure=true)
  (h:RepV1 Z μ w lv v):RepV1 Z' av w' lv v :=
 ⟨fun e=>let ⟨cs,h1,h2⟩:=h.1 e;⟨cs,h1,Rep.repure hz hf _ _ hp h2⟩,fun e=>Rep.repure hz hf _ _ hp (h.2 e)⟩
theorem RepV.of1 {lv:LV} {v:Value} (hn:∀ l,lv≠.tup l) (h:RepV1 Z μ w lv v):RepV Z μ w lv v:=by
 cases lv with
 | tup l=>exact absurd rfl (hn l)
 | any=>trivial
 | _=>exact h
theorem RepV.to1 {lv:LV} {v:Value} (hn:∀ l,lv≠.tup l) (ha:lv≠.any) (h:RepV Z μ w lv v):RepV1 Z μ w lv v:=by
 cases lv with
 | tup l=>exact absurd rfl (hn l)
 | any=>exact absurd rfl ha
 | _=>exact h
theorem LV.pure_ne_any {lv:LV} (hp:lv.pure=true):lv≠.any:=by
 rintro rfl;simp [LV.pure] at hp
theorem LV.pure_ne_tup {lv:LV} (hp:lv.pure=true):∀ l,lv≠.tup l:=by
 rintro l rfl;simp [LV.pure] at hp
theorem RepAll.length {sz:Nat}:∀ (l:List LV) (cs:List Value),RepAll Z μ w sz l cs->cs.length=l.length*sz
 | [],cs,h=>by simp only [RepAll] at h;simp [h]
 | x :: xs,cs,h=>by
   simp only [RepAll] at h;obtain⟨c1,c2,rfl,h2,_,h4⟩:=h;have:=RepAll.length xs c2 h4;simp only [cZ,aQ,cI,Nat.one_mul];omega
theorem RepFs.length:∀ (l:List LV) (cs:List Value),RepFs Z μ w l cs->cs.length=csizes l
 | [],cs,h=>by simp only [RepFs] at h;simp [h,csizes]
 | x :: xs,cs,h=>by
   simp only [RepFs] at h;obtain⟨c1,c2,rfl,h2,_,h4⟩:=h;have:=RepFs.length xs c2 h4;simp only [cZ,csizes];omega
theorem RepAll.get {sz:Nat}:∀ (l:List LV) (cs:List Value) (i:Nat) (x:LV),RepAll Z μ w sz l cs->l[i]?=some x ->
  ∃ pre ch post,cs=pre++(ch++post)/\pre.length=i*sz/\ch.length=sz/\Rep Z μ w x ch /\
   ∀ y ix,Rep Z μ w y ix->ix.length=sz->RepAll Z μ w sz (l.set i y) (pre++(ix++post))
 | [],_,_,_,_,h=>by simp at h
 | a :: xs,cs,0,x,h,hi=>by
   simp only [RepAll] at h;obtain⟨c1,c2,rfl,h2,h3,h4⟩:=h;simp only [ke,bF] at hi;subst hi;exact⟨[],c1,c2,by simp,by simp,h2,h3,fun y ix hy hl=>by simpa [RepAll] using ⟨ix,c2,rfl,hl,hy,h4⟩⟩
 | a :: xs,cs,i+1,x,h,hi=>by
   simp only [RepAll] at h;obtain⟨c1,c2,rfl,h2,h3,h4⟩:=h;obtain⟨pre,ch,post,rfl,e2,e3,e4,e5⟩:=RepAll.get xs c2 i x h4 (by simpa using hi);refine⟨c1++pre,ch,post,by simp,by simp [h2,e2,cI];omega,e3,e4,fun y ix hy hl=>?_⟩;have:=e5 y ix hy hl;simp only [aK,RepAll];exact⟨c1,pre++(ix++post),by simp,h2,h3,this⟩
theorem RepFs.get:∀ (l:List LV) (cs:List Value) (i:Nat) (x:LV),RepFs Z μ w l cs->l[i]?=some x ->
  ∃ pre ch post,cs=pre++(ch++post)/\pre.length=csizes (l.take i)/\ch.length=x.csize/\Rep Z μ w x ch /\
   ∀ y ix,Rep Z μ w y ix->ix.length=y.csize->RepFs Z μ w (l.set i y) (pre++(ix++post))
 | [],_,_,_,_,h=>by simp at h
 | a :: xs,cs,0,x,h,hi=>by
   simp only [RepFs] at h;obtain⟨c1,c2,rfl,h2,h3,h4⟩:=h;simp only [ke,bF] at hi;subst hi;exact⟨[],c1,c2,by simp,by simp [csizes],h2,h3,fun y ix hy hl=>by simpa [RepFs] using ⟨ix,c2,rfl,hl,hy,h4⟩⟩
 | a :: xs,cs,i+1,x,h,hi=>by
   simp only [RepFs] at h;obtain⟨c1,c2,rfl,h2,h3,h4⟩:=h;obtain⟨pre,ch,post,rfl,e2,e3,e4,e5⟩:=RepFs.get xs c2 i x h4 (by simpa using hi);refine⟨c1++pre,ch,post,by simp,by simp [h2,e2,csizes],e3,e4,fun y ix hy hl=>?_⟩;have:=e5 y ix hy hl;simp only [aK,RepFs];exact⟨c1,pre++(ix++post),by simp,h2,h3,this⟩
theorem RepAll.append {sz:Nat}:∀ (l m:List LV) (cs ds:List Value),RepAll Z μ w sz l cs->RepAll Z μ w sz m ds->RepAll Z μ w sz (l++m) (cs++ds)
 | [],m,cs,ds,h,h'=>by simp only [RepAll] at h;simpa [h] using h'
 | x :: xs,m,cs,ds,h,h'=>by
   simp only [RepAll] at h;obtain⟨c1,c2,rfl,h2,h3,h4⟩:=h;have:=RepAll.append xs m c2 ds h4 h';simp only [aby,RepAll];exact⟨c1,c2++ds,by simp,h2,h3,this⟩
theorem RepAll.split {sz:Nat}:∀ (l m:List LV) (cs:List Value),RepAll Z μ w sz (l++m) cs->∃ c1 c2,cs=c1++c2/\RepAll Z μ w sz l c1/\RepAll Z μ w sz m c2
 | [],m,cs,h=>⟨[],cs,rfl,by simp [RepAll],h⟩
 | x :: xs,m,cs,h=>by
   simp only [aby,RepAll] at h;obtain⟨c1,c2,rfl,h2,h3,h4⟩:=h;obtain⟨d1,d2,rfl,e1,e2⟩:=RepAll.split xs m c2 h4;exact⟨c1++d1,d2,by simp,by simpa [RepAll] using ⟨c1,d1,rfl,h2,h3,e1⟩,e2⟩
theorem RepAll.replicate {sz:Nat} {x:LV} {ch:List Value} (h:Rep Z μ w x ch) (hl:ch.length=sz):∀ n,RepAll Z μ w sz (ai n x) (ai n ch).flatten
 | 0=>by simp [RepAll]
 | n+1=>by
   simp only [List.replicate_succ,RepAll,List.flatten_cons];exact⟨ch,_,rfl,hl,h,RepAll.replicate h hl n⟩
end
mutual
def LV.at:LV->Nat->Nat->Bool->Option LV
 | .agg l,o,n,ag=>if o=0/\csizes l=n/\ag=true then some (.agg l) else atFs l o n ag
 | .any,_,_,_=>none
 | x,o,n,ag=>if o=0/\n=1/\ag=false then some x else none
def atFs:List LV->Nat->Nat->Bool->Option LV
 | [],_,_,_=>none
 | x :: xs,o,n,ag=>if o<x.csize then x.at o n ag else atFs xs (o-x.csize) n ag
end
mutual
def LV.put:LV->Nat->LV->Option LV
 | .agg l,o,y=>if o=0/\csizes l=y.csize/\y.isAgg=true then some y else(putFs l o y).map .agg
 | _,o,y=>if o=0/\y.csize=1/\y.isAgg=false then some y else none
def putFs:List LV->Nat->LV->Option (List LV)
 | [],_,_=>none
 | x :: xs,o,y=>if o<x.csize then(x.put o y).map (· :: xs) else(putFs xs (o-x.csize) y).map (x :: ·)
end
section
variable {Z:Nat->Prop} {μ:Nat->Option Nat} {w:World}
mutual
theorem LV.at_spec:∀ (x:LV) (o n:Nat) (ag:Bool) (y:LV) (cs:List Value),x.at o n ag=some y->Rep Z μ w x cs->cs.length=x.csize ->
  ∃ pre ch post,cs=pre++(ch++post)/\pre.length=o/\ch.length=n/\Rep Z μ w y ch/\y.isAgg=ag/\y.csize=n/\y≠.any/\∀ l,y≠.tup l
 | .agg l,o,n,ag,y,cs,h,hr,hl=>by
   simp only [LV.at] at h;split at h
   ·rename_i hc;obtain⟨rfl,h2,rfl⟩:=hc;simp only [bF] at h;subst h;exact⟨[],cs,[],by simp,rfl,by simpa [LV.csize,h2] using hl,hr,rfl,by simp [LV.csize,h2],by simp,by simp⟩
   exact atFs_spec l o n ag y cs h (by simpa [Rep] using hr)
 | .any,_,_,_,_,_,h,_,_=>by simp [LV.at] at h
 | .v x,o,n,ag,y,cs,h,hr,hl=>by
   simp only [LV.at] at h;split at h
   ·rename_i hc;obtain⟨rfl,rfl,rfl⟩:=hc;simp only [bF] at h;subst h;exact r7
   simp at h
 | .list sz l,o,n,ag,y,cs,h,hr,hl=>by
   simp only [LV.at] at h;split at h
   ·rename_i hc;obtain⟨rfl,rfl,rfl⟩:=hc;simp only [bF] at h;subst h;exact r7
   simp at h
 | .ref b sz off len,o,n,ag,y,cs,h,hr,hl=>by
   simp only [LV.at] at h;split at h
   ·rename_i hc;obtain⟨rfl,rfl,rfl⟩:=hc;simp only [bF] at h;subst h;exact r7
   simp at h
 | .refc b sz off len cap,o,n,ag,y,cs,h,hr,hl=>by
   simp only [LV.at] at h;split at h
   ·rename_i hc;obtain⟨rfl,rfl,rfl⟩:=hc;simp only [bF] at h;subst h;exact r7
   simp at h
 | .eptr b sz i o',o,n,ag,y,cs,h,hr,hl=>by
   simp only [LV.at] at h;split at h
   ·rename_i hc;obtain⟨rfl,rfl,rfl⟩:=hc;simp only [bF] at h;subst h;exact r7
   simp at h
 | .boxp c,o,n,ag,y,cs,h,hr,hl=>by
   simp only [LV.at] at h;split at h
   ·rename_i hc;obtain⟨rfl,rfl,rfl⟩:=hc;simp only [bF] at h;subst h;exact r7
   simp at h
 | .clo f cap,o,n,ag,y,cs,h,hr,hl=>by
   simp only [LV.at] at h;split at h
   ·rename_i hc;obtain⟨rfl,rfl,rfl⟩:=hc;simp only [bF] at h;subst h;exact r7
   simp at h
 | .tup _,_,_,_,_,_,_,hr,_=>by simp [Rep] at hr
theorem atFs_spec:∀ (l:List LV) (o n:Nat) (ag:Bool) (y:LV) (cs:List Value),atFs l o n ag=some y->RepFs Z μ w l cs ->
  ∃ pre ch post,cs=pre++(ch++post)/\pre.length=o/\ch.length=n/\Rep Z μ w y ch/\y.isAgg=ag/\y.csize=n/\y≠.any/\∀ l,y≠.tup l
 | [],_,_,_,_,_,h,_=>by simp [atFs] at h
 | x :: xs,o,n,ag,y,cs,h,hr=>by
   simp only [RepFs] at hr;obtain⟨c1,c2,rfl,h2,h3,h4⟩:=hr;simp only [atFs] at h;split at h
   ·obtain⟨pre,ch,post,rfl,e2,e3,e4⟩:=LV.at_spec x o n ag y c1 h h3 h2;exact⟨pre,ch,post++c2,by simp,e2,e3,e4⟩
   obtain⟨pre,ch,post,rfl,e2,e3,e4⟩:=atFs_spec xs (o-x.csize) n ag y c2 h h4;exact⟨c1++pre,ch,post,by simp,by simp;omega,e3,e4⟩
end
mutual
theorem LV.put_spec (y:LV) (dh:List Value) (hy:Rep Z μ w y dh) (hd:dh.length=y.csize):∀ (x:LV) (o:Nat) (x':LV) (cs:List Value),x.put o y=some x' ->
  Rep Z μ w x cs->cs.length=x.csize->∃ pre ch post,cs=pre++(ch++post)/\pre.length=o/\ch.length=dh.length/\Rep Z μ w x' (pre++(dh++post))/\x'.csize=x.csize
 | .agg l,o,x',cs,h,hr,hl=>by
   simp only [LV.put] at h;split at h
   ·rename_i hc;obtain⟨rfl,h2,_⟩:=hc;simp only [bF] at h;subst h;exact⟨[],cs,[],by simp,rfl,by rw [hl,hd];simp [LV.csize,h2],by simpa using hy,by simp [LV.csize,h2]⟩
   simp only [oz] at h;obtain⟨l',h1,rfl⟩:=h;obtain⟨pre,ch,post,e1,e2,e3,e4,e5⟩:=putFs_spec y dh hy hd l o l' cs h1 (by simpa [Rep] using hr);exact⟨pre,ch,post,e1,e2,e3,by simpa [Rep] using e4,by simpa [LV.csize] using e5⟩
 | .any,o,x',cs,h,hr,hl=>by
   simp only [LV.put] at h;split at h
   ·rename_i hc;obtain⟨rfl,h2,_⟩:=hc;simp only [bF] at h;subst h;exact qy
   simp at h
 | .v x,o,x',cs,h,hr,hl=>by
   simp only [LV.put] at h;split at h
   ·rename_i hc;obtain⟨rfl,h2,_⟩:=hc;simp only [bF] at h;subst h;exact qy
   simp at h
 | .list sz l,o,x',cs,h,hr,hl=>by
   simp only [LV.put] at h;split at h
   ·rename_i hc;obtain⟨rfl,h2,_⟩:=hc;simp only [bF] at h;subst h;exact qy
   simp at h
 | .ref b sz off len,o,x',cs,h,hr,hl=>by
   simp only [LV.put] at h;split at h
   ·rename_i hc;obtain⟨rfl,h2,_⟩:=hc;simp only [bF] at h;subst h;exact qy
   simp at h
 | .refc b sz off len cap,o,x',cs,h,hr,hl=>by
   simp only [LV.put] at h;split at h
   ·rename_i hc;obtain⟨rfl,h2,_⟩:=hc;simp only [bF] at h;subst h;exact qy
   simp at h
 | .eptr b sz i o',o,x',cs,h,hr,hl=>by
   simp only [LV.put] at h;split at h
   ·rename_i hc;obtain⟨rfl,h2,_⟩:=hc;simp only [bF] at h;subst h;exact qy
   simp at h
 | .boxp c,o,x',cs,h,hr,hl=>by
   simp only [LV.put] at h;split at h
   ·rename_i hc;obtain⟨rfl,h2,_⟩:=hc;simp only [bF] at h;subst h;exact qy
   simp at h
 | .clo f cap,o,x',cs,h,hr,hl=>by
   simp only [LV.put] at h;split at h
   ·rename_i hc;obtain⟨rfl,h2,_⟩:=hc;simp only [bF] at h;subst h;exact qy
   simp at h
 | .tup _,_,_,_,_,hr,_=>by simp [Rep] at hr
theorem putFs_spec (y:LV) (dh:List Value) (hy:Rep Z μ w y dh) (hd:dh.length=y.csize):∀ (l:List LV) (o:Nat) (l':List LV) (cs:List Value),putFs l o y=some l' ->
  RepFs Z μ w l cs->∃ pre ch post,cs=pre++(ch++post)/\pre.length=o/\ch.length=dh.length/\RepFs Z μ w l' (pre++(dh++post))/\csizes l'=csizes l
 | [],_,_,_,h,_=>by simp [putFs] at h
 | x :: xs,o,l',cs,h,hr=>by
   simp only [RepFs] at hr;obtain⟨c1,c2,rfl,h2,h3,h4⟩:=hr;simp only [putFs] at h;split at h
   ·simp only [oz] at h;obtain⟨x',h1,rfl⟩:=h;obtain⟨pre,ch,post,rfl,e2,e3,e4,e5⟩:=LV.put_spec y dh hy hd x o x' c1 h1 h3 h2;refine⟨pre,ch,post++c2,by simp,e2,e3,?_,by simp [csizes,e5]⟩;simp only [RepFs];exact⟨pre++(dh++post),c2,by simp,by simp at h2 ⊢;omega,e4,h4⟩
   simp only [oz] at h;obtain⟨xs',h1,rfl⟩:=h;obtain⟨pre,ch,post,rfl,e2,e3,e4,e5⟩:=putFs_spec y dh hy hd xs (o-x.csize) xs' c2 h1 h4;refine⟨c1++pre,ch,post,by simp,by simp;omega,e3,?_,by simp [csizes,e5]⟩;simp only [RepFs];exact⟨c1,pre++(dh++post),by simp,h2,h3,e4⟩
end
theorem LV.csize_one {x:LV} (h:x.isAgg=false):x.csize=1:=by cases x<;>simp_all [LV.isAgg,LV.csize]
mutual
theorem Rep.one:∀ (lv:LV) (cs:List Value),Rep Z μ w lv cs->∀ u∈cs,u.oneCell'=true
 | .any,_,h=>by simpa [Rep] using h
 | .v x,cs,h=>by simp only [Rep] at h;obtain⟨rfl,h⟩:=h;simpa using h
 | .list sz l,cs,h=>by simp only [Rep] at h;obtain⟨a,len,cap,rfl,_⟩:=h;simp [Value.oneCell']
 | .agg l,cs,h=>by simp only [Rep] at h;exact RepFs.one l cs h
 | .ref b sz off len,cs,h=>by simp only [Rep] at h;rcases h with⟨rfl,_⟩ | ⟨id,cap,c,T,fz,rfl,_⟩<;>simp [Value.oneCell']
 | .refc b sz off len cap,cs,h=>by simp only [Rep] at h;obtain⟨id,c,T,fz,rfl,_⟩:=h;simp [Value.oneCell']
 | .eptr b sz i o,cs,h=>by simp only [Rep] at h;obtain⟨id,rfl,_⟩:=h;simp [Value.oneCell']
 | .boxp c,cs,h=>by simp only [Rep] at h;obtain⟨blk,off,cc,T,fz,part,rest,rfl,_⟩:=h;simp [Value.oneCell']
 | .clo f cap,cs,h=>by simp only [Rep] at h;obtain⟨vs,rfl,_⟩:=h;simp [Value.oneCell']
 | .tup _,_,h=>by simp [Rep] at h
theorem RepFs.one:∀ (l:List LV) (cs:List Value),RepFs Z μ w l cs->∀ u∈cs,u.oneCell'=true
 | [],cs,h=>by simp only [RepFs] at h;simp [h]
 | x :: xs,cs,h=>by
   simp only [RepFs] at h;obtain⟨c1,c2,rfl,h2,h3,h4⟩:=h;intro u hu;rcases List.mem_append.1 hu with hu | hu
   ·exact Rep.one x c1 h3 u hu
   exact RepFs.one xs c2 h4 u hu
end
theorem Rep.len {lv:LV} {cs:List Value} (h:Rep Z μ w lv cs) (ak:lv≠.any):cs.length=lv.csize:=by
 cases lv with
 | any=>exact absurd rfl ak
 | agg l=>simp only [Rep] at h;exact RepFs.length l cs h
 | v x=>simp only [Rep] at h;simp [h.1,LV.csize]
 | list sz l=>simp only [Rep] at h;obtain⟨a,len,cap,rfl,_⟩:=h;rfl
 | ref b sz off len=>simp only [Rep] at h;rcases h with⟨rfl,_⟩ | ⟨id,cap,c,T,fz,rfl,_⟩<;>rfl
 | refc b sz off len cap=>simp only [Rep] at h;obtain⟨id,c,T,fz,rfl,_⟩:=h;rfl
 | eptr b sz i o=>simp only [Rep] at h;obtain⟨id,rfl,_⟩:=h;rfl
 | boxp c=>simp only [Rep] at h;obtain⟨blk,off,cc,T,fz,part,rest,rfl,_⟩:=h;rfl
 | clo f cap=>simp only [Rep] at h;obtain⟨vs,rfl,_⟩:=h;rfl
 | tup l=>simp [Rep] at h
theorem RepV1.cells {lv:LV} {v:Value} (h:RepV1 Z μ w lv v) (ak:lv≠.any):Rep Z μ w lv v.cells.toList/\v.cells.size=lv.csize /\
  (∀ u∈v.cells.toList,u.oneCell'=true)/\((lv.isAgg=true/\v=.agg v.cells)\/(lv.isAgg=false/\v.cells=#[v]/\v.oneCell'=true)):=by
 cases ha:lv.isAgg with
 | true =>
  obtain⟨cs,rfl,h2⟩:=h.1 ha;refine⟨h2,?_,Rep.one _ _ h2,.inl ⟨rfl,rfl⟩⟩;have:=Rep.len h2 ak;simpa [Value.cells] using this
 | false =>
  have h2:=h.2 ha;have h3:=Rep.one _ _ h2 v aj;have hc:v.cells=#[v]:=by cases v<;>simp_all [Value.cells,Value.oneCell']
  rw [hc];exact⟨h2,by simp [LV.csize_one ha],by simpa using h3,.inr ⟨rfl,rfl,h3⟩⟩
theorem RepV1.mk_cells {lv:LV} {cs:List Value} (h:Rep Z μ w lv cs) (ak:lv≠.any):RepV1 Z μ w lv (if lv.isAgg then .agg cs.toArray else cs.headD default):=by
 refine⟨fun e=>⟨cs.toArray,by simp [e],h⟩,fun e=>?_⟩;have hl:=Rep.len h ak;rw [LV.csize_one e] at hl
 match cs,hl with
 | [x],_=>simpa [e] using h
end
end Go.Lg
namespace Go.Lg
structure Blk where
 sz:Nat
 vals:List LV
 mt:Bool
abbrev Heap:=Nat->Option Blk
structure XS where
 x:Nat->Prop
 y:Nat->Prop
def XS.any (X:XS) (id:Nat):Prop:=X.x id\/X.y id
instance:CoeFun XS (fun _=>Nat->Prop):=⟨XS.any⟩
def XS.no:XS:=⟨fun _=>False,fun _=>False⟩
def XS.one (i0:Nat):XS:=⟨fun k=>k=i0,fun _=>False⟩
theorem XS.no_any {id:Nat}:¬ XS.no.any id:=fun h=>h.elim (fun e=>e) (fun e=>e)
theorem XS.one_any {i0 id:Nat} (h:(XS.one i0).any id):id=i0:=h.elim (fun e=>e) False.elim
structure Kept (X:XS) (W w:World):Prop where
 os:w.os=W.os
 tape:w.tape=W.tape
 output:w.output=W.output
 size:W.heap.size<=w.heap.size
 block:∀ k,k<W.heap.size->¬ X k->w.heap[k]?=W.heap[k]?
 xsz:∀ k,X k->∀ c T fz,W.heap[k]?=some (.cells c T fz)->∃ c',w.heap[k]?=some (.cells c' T fz)/\c'.size=c.size
theorem Kept.refl (X:XS) (W:World):Kept X W W:=⟨rfl,rfl,rfl,an _,fun _ _ _=>rfl,fun _ _ c _ _ h=>⟨c,h,rfl⟩⟩
theorem Kept.below {W w:World} (h:Kept XS.no W w):RowKit.Below W.heap.size W w :=
 ⟨h.os,h.tape,h.output,h.size,fun k hk=>h.block k hk XS.no_any⟩
def BlkRep (Z:Nat->Prop) (μ:Nat->Option Nat) (w:World) (blk:Blk) (id:Nat):Prop :=
 ∃ c T part rest,w.heap[id]?=some (.cells c T (0,0))/\c.toList=part++rest/\RepAll Z μ w blk.sz blk.vals part
structure Core (W:World) (X:XS) (Z0:Nat->Prop) (μ:Nat->Option Nat) (Z:Nat->Prop) (H:Heap) (w:World):Prop where
 keep:Kept X W w
 zone:∀ id,Z id->id<w.heap.size
 zsup:∀ id,Z0 id->Z id
 zsub:∀ id,Z id->Z0 id\/W.heap.size<=id\/X.y id
 inj:∀ b b' id,μ b=some id->μ b'=some id->b=b'
 own:∀ b id,μ b=some id->W.heap.size<=id\/X id
 x0:∀ b id,μ b=some id->X.x id->b=0
 xlt:∀ id,X id->id<W.heap.size
 x1:∀ id,X.x id->μ 0=some id
 mutz:∀ b id blk,μ b=some id->H b=some blk->blk.mt=true->¬ Z id
 frz:∀ b id blk,μ b=some id->H b=some blk->blk.mt=false->Z id
 heap:∀ b id,μ b=some id->∃ blk,H b=some blk/\BlkRep Z μ w blk id
def TyIs (P:Program) (T:TypeId) (n:Nat) (ag:Bool):Prop :=
 (P.info? T).map (·.size)=some n/\∃ d,P.underlying T=some d/\d.isRow=ag
def LayOK (P:Program):Nat->List Field->List (Nat × Bool)->Prop
 | _,[],[]=>True
 | off,f :: fs,(n,ag) :: r=>f.offset=off/\TyIs P f.type n ag/\LayOK P (off+n) fs r
 | _,_,_=>False
def StructLay (P:Program) (T:TypeId) (lay:List (Nat × Bool)):Prop :=
 ∃ fields,P.underlying T=some (.struct fields)/\LayOK P 0 fields.toList lay/\∀ n∈lay,0<n.1
def lay (x:LV):Nat × Bool:=(x.csize,x.isAgg)
section
variable {P:Program} {Z:Nat->Prop} {μ:Nat->Option Nat} {w:World}
theorem range_of {blk off:Nat} {c:Array Value} {T:TypeId} {fz:Nat × Nat} {part rest:List Value}
  (h:w.heap[blk]?=some (.cells c T fz)) (hd:c.toList.drop off=part++rest):w.rangeAt blk off part:=by
 intro j v hj;rw [cell_of_row w blk (off+j) c T fz h];have h1:(c.toList.drop off)[j]?=some v:=by
  rw [hd,List.getElem?_append_left (fV.1 hj).1];exact hj
 rw [List.getElem?_drop] at h1;simpa using h1
theorem load_sound {T:TypeId} {y:LV} {blk off:Nat} {c:Array Value} {U:TypeId} {fz:Nat × Nat} {part rest:List Value}
  (ht:TyIs P T y.csize y.isAgg) (h:w.heap[blk]?=some (.cells c U fz)) (hd:c.toList.drop off=part++rest)
  (hy:Rep Z μ w y part) (ak:y≠.any) :
  ∃ v,(Instr.loadAt T (.pointer (some ⟨blk,off,none⟩))).run P w=.ok v w/\RepV1 Z μ w y v:=by
 have hr:=range_of h hd;have hl:=Rep.len hy ak;obtain⟨hi,d,hu,cd⟩:=ht;refine⟨_,?_,RepV1.mk_cells hy ak⟩
 cases ha:y.isAgg with
 | true =>
  have:=run_loadAt_mid (P:=P) w blk off T part d hr hu (by rw [cd,ha]) (by rw [hi,hl]);simpa using this
 | false =>
  rw [LV.csize_one ha] at hl
  match part,hl,hr with
  | [x],_,hr =>
   have hx:=hr 0 x rfl;have hag:(isAgg T).run P w=.ok false w:=by
    unfold isAgg;rw [Sem.run_bind,run_underlying hu w];rw [ha] at cd
    cases d<;>simp_all [TypeDesc.isRow]
   simp [Instr.loadAt,Instr.sureAddr,loadVar,Sem.run_bind,hag,iH] at hx ⊢;simp [hx]
theorem LayOK_get:∀ (fs:List Field) (ls:List LV) (off k:Nat) (f:Field) (x:LV),LayOK P off fs (ls.map lay)->fs[k]?=some f->ls[k]?=some x ->
  f.offset=off+csizes (ls.take k)/\TyIs P f.type x.csize x.isAgg
 | [],_,_,_,_,_,_,h,_=>by simp at h
 | _ :: _,[],_,_,_,_,_,_,h=>by simp at h
 | f :: fs,y :: ys,off,0,g,x,h,h1,h2=>by
   simp only [gA,lay,LayOK] at h;simp only [ke,bF] at h1 h2;subst h1 h2;exact⟨by simp [csizes,h.1],h.2.1⟩
 | f :: fs,y :: ys,off,k+1,g,x,h,h1,h2=>by
   simp only [gA,lay,LayOK] at h;have:=LayOK_get fs ys (off+y.csize) k g x h.2.2 (by simpa using h1) (by simpa using h2);refine⟨?_,this.2⟩;rw [this.1];simp [csizes];omega
theorem LayOK_length:∀ (fs:List Field) (ls:List (Nat × Bool)) (off:Nat),LayOK P off fs ls->fs.length=ls.length
 | [],[],_,_=>rfl
 | [],_ :: _,_,h=>by simp [LayOK] at h
 | _ :: _,[],_,h=>by simp [LayOK] at h
 | f :: fs,(n,ag) :: r,off,h=>by
   simp only [LayOK] at h;simp [LayOK_length fs r _ h.2.2]
theorem run_isAgg {T:TypeId} {n:Nat} {ag:Bool} (ht:TyIs P T n ag):(isAgg T).run P w=.ok ag w:=by
 obtain⟨hi,d,hd,rfl⟩:=ht;unfold isAgg;rw [Sem.run_bind,run_underlying hd w]
 cases d<;>simp [TypeDesc.isRow]
theorem run_sizeOf {T:TypeId} {n:Nat} {ag:Bool} (ht:TyIs P T n ag):(sizeOf T).run P w=.ok n w:=by
 obtain⟨hi,_⟩:=ht
 cases hq:P.info? T with
 | none=>simp [hq] at hi
 | some i =>
  simp only [hq,ju,bF] at hi;subst hi;simp [sizeOf,typeInfo,hq]
theorem part_sound {T:TypeId} {x:LV} (ht:TyIs P T x.csize x.isAgg) {cs:Array Value} {pre ch post:List Value} (e1:cs.toList=pre++(ch++post))
  (h:Rep Z μ w x ch) (ak:x≠.any):∃ u,(part T cs pre.length).run P w=.ok u w/\RepV1 Z μ w x u:=by
 have e3:=Rep.len h ak;have hcs:cs=(pre++(ch++post)).toArray:=by apply l8;simp [e1]
 refine⟨_,?_,RepV1.mk_cells h ak⟩;unfold part;rw [Sem.run_bind,run_isAgg ht]
 cases ha:x.isAgg with
 | true =>
  simp only [Result.andThen_ok,if_true,Sem.run_bind,run_sizeOf ht,Sem.run_pure];congr 2;apply l8;rw [hcs,<-e3];simp
 | false =>
  rw [LV.csize_one ha] at e3
  match ch,e3 with
  | [y],_ =>
   have:cs[pre.length]?=some y:=by rw [hcs];simp
   simp [this]
theorem field_sound {T:TypeId} {fs:List LV} {k:Nat} {x:LV} {v:Value} (ht:StructLay P T (fs.map lay)) (hx:fs[k]?=some x) (ak:x≠.any)
  (h:RepV1 Z μ w (.agg fs) v):∃ u,(Instr.field T v k).run P w=.ok u w/\RepV1 Z μ w x u:=by
 obtain⟨fields,hu,hl,_⟩:=ht;obtain⟨cs,rfl,hc⟩:=h.1 rfl;simp only [Rep] at hc;obtain⟨pre,ch,post,e1,e2,e3,e4,_⟩:=RepFs.get fs cs.toList k x hc hx;have hk:k<fields.toList.length:=by
  rw [LayOK_length _ _ _ hl,aA];exact(fV.1 hx).1
 obtain⟨f,vQ⟩:∃ f,fields.toList[k]?=some f:=⟨_,aB hk⟩;obtain⟨g1,hty⟩:=LayOK_get fields.toList fs 0 k f x hl vQ hx;have aaN:fields[k]?=some f:=by rw [<-tA];exact vQ
 obtain⟨u,og,eC⟩:=part_sound (T:=f.type) hty e1 e4 ak;refine⟨u,?_,eC⟩;have:f.offset=pre.length:=J;simp only [Instr.field,Sem.run_bind,run_underlying hu,Result.andThen_ok,aaN,asAgg,Sem.run_pure,this,og]
def sumL:List (Nat × Bool)->Nat
 | []=>0
 | x :: xs=>x.1+sumL xs
theorem sumL_lay:∀ (fs:List LV) (k:Nat),sumL ((fs.map lay).take k)=csizes (fs.take k)
 | [],k=>by simp [sumL,csizes]
 | x :: xs,0=>by simp [sumL,csizes]
 | x :: xs,k+1=>by simp [sumL,csizes,lay,<-sumL_lay xs k]
theorem LayOK_getL:∀ (fs:List Field) (ls:List (Nat × Bool)) (off k:Nat) (f:Field) (x:Nat × Bool),LayOK P off fs ls->fs[k]?=some f->ls[k]?=some x ->
  f.offset=off+sumL (ls.take k)/\TyIs P f.type x.1 x.2
 | [],_,_,_,_,_,_,h,_=>by simp at h
 | _ :: _,[],_,_,_,_,_,_,h=>by simp at h
 | f :: fs,(n,ag) :: ys,off,0,g,x,h,h1,h2=>by
   simp only [LayOK] at h;simp only [ke,bF] at h1 h2;subst h1 h2;exact⟨by simp [sumL,h.1],h.2.1⟩
 | f :: fs,(n,ag) :: ys,off,k+1,g,x,h,h1,h2=>by
   simp only [LayOK] at h;have:=LayOK_getL fs ys (off+n) k g x h.2.2 (by simpa using h1) (by simpa using h2);refine⟨?_,this.2⟩;rw [this.1];simp [sumL];omega
theorem run_fieldAt {T:TypeId} {ls:List (Nat × Bool)} {k:Nat} (ht:StructLay P T ls) (jb:k<ls.length) (b o:Nat) :
  (Instr.fieldAt T (.pointer (some ⟨b,o,none⟩)) k).run P w=.ok (.pointer (some ⟨b,o+sumL (ls.take k),none⟩)) w:=by
 obtain⟨fields,hu,hl,gC⟩:=ht;have hk:k<fields.toList.length:=by rw [LayOK_length _ _ _ hl];exact jb
 obtain⟨f,vQ⟩:∃ f,fields.toList[k]?=some f:=⟨_,aB hk⟩;have hx:ls[k]?=some ls[k]:=aB jb;obtain⟨g1,hty⟩:=LayOK_getL fields.toList ls 0 k f _ hl vQ hx;have aaN:fields[k]?=some f:=by rw [<-tA];exact vQ
 have hp:0<ls[k].1:=gC _ (jZ hx);have ak:¬ ls[k].1=0:=J;simp only [Instr.fieldAt,Sem.run_bind,run_underlying hu,Result.andThen_ok,aaN,Instr.sureAddr,Sem.run_pure,fieldPlace,run_sizeOf hty,Sem.run_ite,if_neg ak,g1,cJ,Addr.add_mid]
end
end Go.Lg
namespace Go.Lg
def binI (op:BinOp) (k:IntKind) (a b:Int):Option Value :=
 match op with
 | .add=>some (.int k (k.wrap (a+b)))
 | .sub=>some (.int k (k.wrap (a-b)))
 | .mul=>some (.int k (k.wrap (a*b)))
 | .quo=>if b=0 then none else some (.int k (k.wrap (a.tdiv b)))
 | .rem=>if b=0 then none else some (.int k (a.tmod b))
 | .and=>some (.int k (k.wrap (kD k.bits a &&& kD k.bits b).toNat))
 | .or=>some (.int k (k.wrap (kD k.bits a ||| kD k.bits b).toNat))
 | .eql=>some (.bool (a==b))
 | .neq=>some (.bool (a != b))
 | .lss=>some (.bool (a<b))
 | .leq=>some (.bool (a<=b))
 | .gtr=>some (.bool (a > b))
 | .geq=>some (.bool (a>=b))
 | _=>none
def shI (op:BinOp) (k:IntKind) (a b:Int):Option Value :=
 if b<0 then none else
 match op with
 | .shl=>some (.int k (k.wrap (a*2 ^ min b.toNat k.bits)))
 | .shr=>some (.int k (a.fdiv (2 ^ min b.toNat k.bits)))
 | _=>none
def ZeroOK (P:Program) (T:TypeId) (z:LV):Prop :=
 ∃ i zv,P.info? T=some i/\i.zero=some zv/\z.pure=true/\∀ (Z:Nat->Prop) (μ:Nat->Option Nat) (w:World),Rep Z μ w z zv.cells.toList
def buildL (zs:List LV) (ps:List (Nat × LV)):List LV:=ps.foldl (fun acc p=>acc.set p.1 p.2) zs
inductive OpP (P:Program) (H:Heap) (ρ:Operand->LV):Op->LV->Prop
 | move (x):OpP P H ρ (.move x) (ρ x)
 | assign (x):OpP P H ρ (.assign x) (ρ x)
 | pick {c x y t} (h:ρ c=.v (.bool t)):OpP P H ρ (.pick c x y) (if t then ρ x else ρ y)
 | bin {op T x y U k a b r} (hx:ρ x=.v (.int k a)) (hy:ρ y=.v (.int k b)) (h:binI op k a b=some r):OpP P H ρ (.binOp op T x y U) (.v r)
 | sh {op T x y U k k' a b r} (hx:ρ x=.v (.int k a)) (hy:ρ y=.v (.int k' b)) (h:shI op k a b=some r):OpP P H ρ (.binOp op T x y U) (.v r)
 | beq {T x y U a b} (hx:ρ x=.v (.bool a)) (hy:ρ y=.v (.bool b)) (hT:P.underlying T=some .bool):OpP P H ρ (.binOp .eql T x y U) (.v (.bool (a==b)))
 | bne {T x y U a b} (hx:ρ x=.v (.bool a)) (hy:ρ y=.v (.bool b)) (hT:P.underlying T=some .bool):OpP P H ρ (.binOp .neq T x y U) (.v (.bool (!(a==b))))
 | not {T x a} (hx:ρ x=.v (.bool a)):OpP P H ρ (.unOp .not T x) (.v (.bool !a))
 | neg {T x k a} (hx:ρ x=.v (.int k a)):OpP P H ρ (.unOp .neg T x) (.v (.int k (k.wrap (0-a))))
 | conv {S D x k k' n d} (hS:P.underlying S=some d) (hD:P.underlying D=some (.int k)) (hx:ρ x=.v (.int k' n)):OpP P H ρ (.convert S D x) (.v (.int k (k.wrap n)))
 | extract {t i l r} (ht:ρ t=.tup l) (hr:l[i]?=some r) (ak:∀ m,r≠.tup m):OpP P H ρ (.extract t i) r
 | field {T x k fs r} (hx:ρ x=.agg fs) (hT:StructLay P T (fs.map lay)) (hr:fs[k]?=some r) (ak:r.pure=true):OpP P H ρ (.field T x k) r
 | fieldAddrB {T p k fs r} (hp:ρ p=.boxp (.agg fs)) (hT:StructLay P T (fs.map lay)) (hr:fs[k]?=some r):OpP P H ρ (.fieldAddr T p k) (.boxp r)
 | fieldAddrE {T p k b sz i o ls} (hp:ρ p=.eptr b sz i o) (hT:StructLay P T ls) (hk:k<ls.length):OpP P H ρ (.fieldAddr T p k) (.eptr b sz i (o+sumL (ls.take k)))
 | loadB {T p c} (hp:ρ p=.boxp c) (hT:TyIs P T c.csize c.isAgg) (hc:c.pure=true):OpP P H ρ (.load T p) c
 | loadE {T p b sz i o blk x r n ag} (hp:ρ p=.eptr b sz i o) (hb:H b=some blk) (hs:blk.sz=sz) (hi:blk.vals[i]?=some x) (hx:x.csize=sz) (hr:x.at o n ag=some r)
   (hT:TyIs P T n ag):OpP P H ρ (.load T p) r
 | nilChkE {x b sz i o} (hx:ρ x=.eptr b sz i o):OpP P H ρ (.nilCheck x) (.eptr b sz i o)
 | idxA {T E x i n fs k m r sz ag} (hx:ρ x=.agg fs) (hT:P.underlying T=some (.array n E)) (hE:TyIs P E sz ag) (hf:fs.map lay=ai n (sz,ag)) (hi:ρ i=.v (.int k m)) (h0:0<=m)
   (hr:fs[m.toNat]?=some r) (hp:r.pure=true):OpP P H ρ (.index T x i) r
 | idxAE {T E x j n b sz i o k m es ag} (hx:ρ x=.eptr b sz i o) (hT:P.underlying T=some (.array n E)) (hE:TyIs P E es ag) (hi:ρ j=.v (.int k m)) (h0:0<=m) (hm:m<n) :
   OpP P H ρ (.indexAddr T x j) (.eptr b sz i (o+m.toNat*es))
 | idxAB {T E x i n fs k m r sz ag} (hx:ρ x=.boxp (.agg fs)) (hT:P.underlying T=some (.array n E)) (hE:TyIs P E sz ag) (hf:fs.map lay=ai n (sz,ag)) (hi:ρ i=.v (.int k m)) (h0:0<=m)
   (hr:fs[m.toNat]?=some r):OpP P H ρ (.indexAddr T x i) (.boxp r)
 | buildA {T E zs ps n sz ag} (hT:P.underlying T=some (.array n E)) (hE:TyIs P E sz ag) (hf:∀ z∈zs,lay z=(sz,ag)) (hz:ZeroOK P T (.agg zs))
   (hp:∀ p∈ps.toList,∃ z,zs[p.1]?=some z/\lay (ρ p.2)=lay z/\ρ p.2≠.any/\∀ m,ρ p.2≠.tup m) :
   OpP P H ρ (.build T ps) (.agg (buildL zs (ps.toList.map fun p=>(p.1,ρ p.2))))
 | nilChkB {x c} (hx:ρ x=.boxp c):OpP P H ρ (.nilCheck x) (.boxp c)
 | idxL {T E x i sz l k n r ag} (hx:ρ x=.list sz l) (hT:P.underlying T=some (.slice E)) (hE:TyIs P E sz ag) (hi:ρ i=.v (.int k n)) (h0:0<=n)
   (hr:l[n.toNat]?=some r) (hc:r.csize=sz):OpP P H ρ (.indexAddr T x i) (.boxp r)
 | idxR {T E x i b sz off len k n ag} (hx:ρ x=.ref b sz off len) (hT:P.underlying T=some (.slice E)) (hE:TyIs P E sz ag) (hi:ρ i=.v (.int k n)) (h0:0<=n)
   (hn:n<len):OpP P H ρ (.indexAddr T x i) (.eptr b sz (off+n.toNat) 0)
 | sliceL {T E x sz ag l a h la ha} (hx:ρ x=.list sz l) (hT:P.underlying T=some (.slice E)) (hE:TyIs P E sz ag) (aC:∀ y,la=some y->∃ k,ρ y=.v (.int k (a:Nat)))
   (jM:la=none->a=0) (dg:∀ y,ha=some y->∃ k,ρ y=.v (.int k (h:Nat))) (mE:ha=none->h=l.length) (h1:a<=h) (h2:h<=l.length) :
   OpP P H ρ (.slice T x la ha none) (.list sz ((l.take h).drop a))
 | sliceR {T E x b sz off len ag a h la ha} (hx:ρ x=.ref b sz off len) (hT:P.underlying T=some (.slice E)) (hE:TyIs P E sz ag) (aC:∀ y,la=some y->∃ k,ρ y=.v (.int k (a:Nat)))
   (jM:la=none->a=0) (dg:∀ y,ha=some y->∃ k,ρ y=.v (.int k (h:Nat))) (mE:ha=none->h=len) (h1:a<=h) (h2:h<=len) (gC:a<len) :
   OpP P H ρ (.slice T x la ha none) (.ref b sz (off+a) (h-a))
 | sliceR3 {T E x b sz off len ag a h mx la z zm k k'} (hx:ρ x=.ref b sz off len) (hT:P.underlying T=some (.slice E)) (hE:TyIs P E sz ag) (aC:∀ y,la=some y->∃ k,ρ y=.v (.int k (a:Nat)))
   (jM:la=none->a=0) (dg:ρ z=.v (.int k (h:Nat))) (hmx:ρ zm=.v (.int k' (mx:Nat))) (h1:a<=h) (h2:h<=mx) (h3:mx<=len) (gC:a<mx) :
   OpP P H ρ (.slice T x la (some z) (some zm)) (.ref b sz (off+a) (h-a))
 | lenL {T x sz l d as} (hx:ρ x=.list sz l) (has:as=#[T]) (hT:P.underlying T=some (.slice d)):OpP P H ρ (.call ⟨.builtin .len,#[x],as⟩) (.v (.int .i64 (l.length:Nat)))
 | lenR {T x b sz off len d as} (hx:ρ x=.ref b sz off len) (has:as=#[T]) (hT:P.underlying T=some (.slice d)):OpP P H ρ (.call ⟨.builtin .len,#[x],as⟩) (.v (.int .i64 (len:Nat)))
 | lenN {T x d as} (hx:ρ x=.v (.slice none 0 0)) (has:as=#[T]) (hT:P.underlying T=some (.slice d)):OpP P H ρ (.call ⟨.builtin .len,#[x],as⟩) (.v (.int .i64 (0:Nat)))
 | lenC {T x b sz off len cp d as} (hx:ρ x=.refc b sz off len cp) (has:as=#[T]) (hT:P.underlying T=some (.slice d)):OpP P H ρ (.call ⟨.builtin .len,#[x],as⟩) (.v (.int .i64 (len:Nat)))
 | capC {T x b sz off len cp d as} (hx:ρ x=.refc b sz off len cp) (has:as=#[T]) (hT:P.underlying T=some (.slice d)):OpP P H ρ (.call ⟨.builtin .cap,#[x],as⟩) (.v (.int .i64 (cp:Nat)))
 | sliceC {T E x b sz off len cp ag a h la ha} (hx:ρ x=.refc b sz off len cp) (hT:P.underlying T=some (.slice E)) (hE:TyIs P E sz ag) (aC:∀ y,la=some y->∃ k,ρ y=.v (.int k (a:Nat)))
   (jM:la=none->a=0) (dg:∀ y,ha=some y->∃ k,ρ y=.v (.int k (h:Nat))) (mE:ha=none->h=len) (h1:a<=h) (h2:h<=cp) (gC:a<cp) :
   OpP P H ρ (.slice T x la ha none) (.refc b sz (off+a) (h-a) (cp-a))
 | min2 {x y k a b as} (hx:ρ x=.v (.int k a)) (hy:ρ y=.v (.int k b)):OpP P H ρ (.call ⟨.builtin .min,#[x,y],as⟩) (.v (.int k (if b<a then b else a)))
 | max2 {x y k a b as} (hx:ρ x=.v (.int k a)) (hy:ρ y=.v (.int k b)):OpP P H ρ (.call ⟨.builtin .max,#[x,y],as⟩) (.v (.int k (if b > a then b else a)))
 | indexS {T x i s k n b} (hx:ρ x=.v (.string s)) (hT:P.underlying T=some .string) (hi:ρ i=.v (.int k n)) (h0:0<=n) (hb:s[n.toNat]?=some b):OpP P H ρ (.index T x i) (.v (.int .u8 b.toNat))
 | ext2 {f xs as fn e} {vs:List Value} {r1 r2} (hf:P.funcs[f]?=some fn) (fS:(fn.name== "runtime.NumGoroutine")=false) (hb:fn.body.isNone=true) (hn:Extern.findNext fn=none) (he:Extern.find fn=some e)
   (hx:xs.toList.map ρ=vs.map LV.v) (hr:∀ w:World,(e vs.toArray).run P w=.ok (.tuple #[r1,r2]) w) (h1:r1.oneCell'=true) (h2:r2.oneCell'=true) :
   OpP P H ρ (.call ⟨.value (.func f),xs,as⟩) (.tup [.v r1,.v r2])
 | build {T zs ps} (hT:StructLay P T (zs.map lay)) (hz:ZeroOK P T (.agg zs)) (hp:∀ p∈ps.toList,∃ z,zs[p.1]?=some z/\lay (ρ p.2)=lay z/\ρ p.2≠.any/\∀ m,ρ p.2≠.tup m) :
   OpP P H ρ (.build T ps) (.agg (buildL zs (ps.toList.map fun p=>(p.1,ρ p.2))))
section
variable {P:Program} {Z:Nat->Prop} {μ:Nat->Option Nat} {w:World}
theorem RepV.int {k:IntKind} {n:Int}:RepV Z μ w (.v (.int k n)) (.int k n):=⟨by simp [LV.isAgg],fun _=>by simp [Rep,Value.oneCell']⟩
theorem RepV.bool {b:Bool}:RepV Z μ w (.v (.bool b)) (.bool b):=⟨by simp [LV.isAgg],fun _=>by simp [Rep,Value.oneCell']⟩
theorem RepV.v_eq {x v:Value} (h:RepV Z μ w (.v x) v):v=x:=by
 have:=h.2 rfl;simp only [Rep] at this;simpa using this.1
theorem RepV.v {x:Value} (h:x.oneCell'=true):RepV Z μ w (.v x) x:=⟨by simp [LV.isAgg],fun _=>by simp [Rep,h]⟩
theorem binI_one {op:BinOp} {k:IntKind} {a b:Int} {r:Value} (h:binI op k a b=some r):r.oneCell'=true:=by
 cases op<;>simp [binI] at h<;>first | (subst h;rfl) | (obtain⟨_,rfl⟩:=h;rfl)
theorem shI_one {op:BinOp} {k:IntKind} {a b:Int} {r:Value} (h:shI op k a b=some r):r.oneCell'=true:=by
 unfold shI at h;split at h
 ·simp at h
 cases op<;>simp at h<;>(subst h;rfl)
theorem run_binI {op:BinOp} {T:TypeId} {x y:Operand} {k:IntKind} {a b:Int} {r:Value} (h:binI op k a b=some r) :
  (do eqGuard op T x y (.int k a) (.int k b);binOp op T (.int k a) (.int k b):Sem Value).run P w=.ok r w:=by
 cases op<;>simp [binI] at h<;>simp [eqGuard,binOp,Op.intArith,Op.intDiv,Op.intBits,Op.intCmp] <;>
  first
   | (subst h;rfl)
   | (obtain⟨h1,rfl⟩:=h;simp [h1])
   | skip
theorem run_shI {op:BinOp} {T:TypeId} {x y:Operand} {k k':IntKind} {a b:Int} {r:Value} (h:shI op k a b=some r) :
  (do eqGuard op T x y (.int k a) (.int k' b);binOp op T (.int k a) (.int k' b):Sem Value).run P w=.ok r w:=by
 unfold shI at h;split at h
 ·simp at h
 rename_i hb
 cases op<;>simp at h<;>subst h<;>simp [eqGuard,binOp,Op.shift,hb]
theorem zip_fill (off:Nat):∀ (vs:List Value) (i:Nat) (cells:Array Value),off+i+vs.length<=cells.size ->
  ((vs.zipIdx i).foldl (fun cs p=>cs.setIfInBounds (off+p.2) p.1) cells).toList=cells.toList.take (off+i)++(vs++cells.toList.drop (off+i+vs.length))
 | [],i,cells,h=>by simp
 | v :: vs,i,cells,h=>by
   simp only [aQ] at h;simp only [List.zipIdx_cons,List.foldl_cons];rw [zip_fill off vs (i+1) _ (by rw [Array.size_setIfInBounds];omega)];have e:off+(i+1)=(off+i)+1:=J;rw [e,Array.toList_setIfInBounds,List.take_succ_eq_append_getElem al,List.getElem_set_self,List.take_set_of_le J,List.drop_set_of_lt J];have e2:off+i+1+vs.length=off+i+(vs.length+1):=J;rw [e2];simp
theorem fill_sound {ls:List (Nat × Bool)} (place:Nat->Option (Nat × Nat)) (dW:∀ k n,ls[k]?=some n->place k=some (sumL (ls.take k),n.1)) :
  ∀ (ps:List (Nat × Value)) (qs:List (Nat × LV)) (zs:List LV) (cells:Array Value),zs.map lay=ls->RepFs Z μ w zs cells.toList ->
   ps.map (·.1)=qs.map (·.1)->(∀ (j:Nat) (p:Nat × Value) (q:Nat × LV),ps[j]?=some p->qs[j]?=some q->RepV1 Z μ w q.2 p.2/\q.2≠LV.any) ->
   (∀ q∈qs,∃ n,ls[q.1]?=some n/\lay q.2=n) ->
   ∃ cs,Instr.fill place cells ps=some cs/\RepFs Z μ w (buildL zs qs) cs.toList
 | [],[],zs,cells,_,hr,_,_,_=>⟨cells,rfl,hr⟩
 | [],_ :: _,_,_,_,_,h,_,_=>by simp at h
 | _ :: _,[],_,_,_,_,h,_,_=>by simp at h
 | (k,v) :: ps,(k',x) :: qs,zs,cells,hz,hr,hk,hv,hq=>by
   simp only [gA,b7] at hk;obtain⟨rfl,hk⟩:=hk;obtain⟨n,hn,zj⟩:=hq (k,x) aj;obtain⟨hxv,pj⟩:=hv 0 (k,v) (k,x) rfl rfl;obtain⟨c1,c2,c3,_⟩:=hxv.cells pj;have tN:=hn;simp only at hn zj;rw [<-hz,bU] at hn;obtain⟨z,hzk,hzn⟩:∃ z,zs[k]?=some z/\lay z=n:=by
    cases h:zs[k]? with
    | none=>simp [h] at hn
    | some z=>exact⟨z,rfl,by simpa [h] using hn⟩
   obtain⟨pre,ch,post,e1,e2,e3,e4,e5⟩:=RepFs.get zs cells.toList k z hr hzk;have hsz:v.cells.size=n.1:=by rw [c2,<-zj];rfl
   have aiH:ch.length=n.1:=by rw [e3,<-hzn];rfl
   have jO:sumL (ls.take k)=pre.length:=by rw [<-hz,sumL_lay,e2]
   have hcs:cells.size=pre.length+(ch.length+post.length):=by
    rw [<-gG,e1];simp
   simp only [Instr.fill,dW k n tN,jO];have afL:¬ ((decide (v.cells.size≠n.1) || decide (pre.length+v.cells.size > cells.size))=true):=by
    simp only [Bool.or_eq_true,decide_eq_true_eq,not_or,afB];omega
   rw [if_neg afL];have hf:=zip_fill pre.length v.cells.toList 0 cells al;have fo:(v.cells.zipIdx.foldl (fun cs p=>cs.setIfInBounds (pre.length+p.2) p.1) cells).toList=pre++(v.cells.toList++post):=by
    rw [<-Array.foldl_toList,Array.toList_zipIdx];rw [hf,e1];simp only [iH,gG,List.take_left];rw [aeo,ep J,aR];congr 2;rw [aeo,ep J,aR];have:pre.length+v.cells.size-pre.length-ch.length=0:=J;rw [this];rfl
   have se:=e5 x v.cells.toList c1 (by simp [c2]);rw [<-fo] at se;refine fill_sound place dW ps qs (zs.set k x) _ ?_ se hk (fun j p q hp hq=>hv (j+1) p q (by simpa using hp) (by simpa using hq)) (fun q h=>hq q (by simp [h]));rw [List.map_set,hz,zj];refine List.ext_getElem? fun j=>?_;by_cases hj:k=j
   ·subst hj;rw [List.getElem?_set_self (fV.1 tN).1,tN]
   rw [List.getElem?_set_ne hj]
end
end Go.Lg
namespace Go.Lg
section
variable {P:Program} {Z:Nat->Prop} {μ:Nat->Option Nat} {w:World} {H:Heap} {ρ:Operand->LV} {a:Act}
theorem RepVL.get:∀ (l:List LV) (vs:List Value) (i:Nat) (x:LV),RepVL Z μ w l vs->l[i]?=some x->∃ v,vs[i]?=some v/\RepV1 Z μ w x v
 | [],_,_,_,_,h=>by simp at h
 | y :: ys,_,0,x,⟨v,dK,e,h1,h2⟩,hi=>by
   simp only [ke,bF] at hi;subst hi e;exact⟨v,by simp,h1⟩
 | y :: ys,_,i+1,x,⟨v,dK,e,h1,h2⟩,hi=>by
   subst e;have:=RepVL.get ys dK i x h2 (by simpa using hi);simpa using this
theorem idx_cells {sz:Nat} {l:List LV} {i:Nat} {r:LV} {off:Nat} {c:Array Value} {part rest:List Value}
  (hd:c.toList.drop off=part++rest) (hr:RepAll Z μ w sz l part) (hi:l[i]?=some r) :
  ∃ ch post,c.toList.drop (off+i*sz)=ch++post/\ch.length=sz/\Rep Z μ w r ch:=by
 obtain⟨pre,ch,post,e1,e2,e3,e4,_⟩:=RepAll.get l part i r hr hi;refine⟨ch,post++rest,?_,e3,e4⟩;rw [<-je,hd,e1,<-e2];simp
theorem run_indexAt_slice {T E:TypeId} {sz:Nat} {ag:Bool} (hT:P.underlying T=some (.slice E)) (hE:TyIs P E sz ag) (k:IntKind) (n:Int) (len cap b off:Nat) (h0:0<=n) (h1:n<len) :
  (Instr.indexAt T (.slice (some ⟨b,off,none⟩) len cap) (.int k n)).run P w=.ok (.pointer (some ⟨b,off+n.toNat*sz,none⟩)) w:=by
 have h2:(0<=n/\n<(len:Int)):=⟨h0,h1⟩;simp [Instr.indexAt,asIntOf,run_underlying hT,run_sizeOf hE,h2,Addr.add_mid]
theorem run_equal_bool {T:TypeId} (hT:P.underlying T=some .bool) (i j:Bool):(Op.equal T (.bool i) (.bool j)).run P w=.ok (i==j) w:=by
 have h:∀ d,(Op.equalIn (d+1) T (.bool i) (.bool j)).run P w=.ok (i==j) w:=fun d=>by
  simp only [Op.equalIn,Sem.run_bind,run_underlying hT,Result.andThen_ok,Sem.run_pure]
 exact h 9999
theorem run_eq_bool {T:TypeId} (hT:P.underlying T=some .bool) {x y:Operand} (i j:Bool) :
  (do eqGuard .eql T x y (.bool i) (.bool j);binOp .eql T (.bool i) (.bool j):Sem Value).run P w=.ok (.bool (i==j)) w:=by
 have h1:(eqGuard .eql T x y (.bool i) (.bool j)).run P w=.ok () w:=by simp [eqGuard]
 have h2:(binOp .eql T (.bool i) (.bool j)).run P w=.ok (.bool (i==j)) w:=by
  simp only [binOp];rw [Sem.run_bind,run_equal_bool hT];rfl
 rw [Sem.run_bind,h1];exact h2
theorem run_ne_bool {T:TypeId} (hT:P.underlying T=some .bool) {x y:Operand} (i j:Bool) :
  (do eqGuard .neq T x y (.bool i) (.bool j);binOp .neq T (.bool i) (.bool j):Sem Value).run P w=.ok (.bool (!(i==j))) w:=by
 have h1:(eqGuard .neq T x y (.bool i) (.bool j)).run P w=.ok () w:=by simp [eqGuard]
 have h2:(binOp .neq T (.bool i) (.bool j)).run P w=.ok (.bool (!(i==j))) w:=by
  simp only [binOp];rw [Sem.run_bind,run_equal_bool hT];rfl
 rw [Sem.run_bind,h1];exact h2
theorem slice_bounds (isS:Bool) (len cap:Nat) (la ha:Option Value) (a h:Nat) (aC:∀ y,la=some y->∃ k,y=.int k (a:Nat)) (jM:la=none->a=0)
  (dg:∀ y,ha=some y->∃ k,y=.int k (h:Nat)) (mE:ha=none->h=len) (h1:a<=h) (h2:h<=cap) :
  (Instr.sliceBounds isS len cap la ha none).run P w=.ok (a,h,cap) w:=by
 have e1:∀ (k:IntKind) (c:BoundsCode),(Instr.sliceBound (.int k (h:Nat)) cap c).run P w=.ok h w:=fun k c=>by
  have:=run_sliceBound (P:=P) w k (h:Int) cap c J J;simpa using this
 have e2:∀ (k:IntKind) (c:BoundsCode),(Instr.sliceBound (.int k (a:Nat)) h c).run P w=.ok a w:=fun k c=>by
  have:=run_sliceBound (P:=P) w k (a:Int) h c J J;simpa using this
 cases la with
 | none =>
  have:=jM rfl;subst this
  cases ha with
  | none=>have:=mE rfl;subst this;simp [Instr.sliceBounds]
  | some y=>obtain⟨k,rfl⟩:=dg y rfl;simp [Instr.sliceBounds,e1]
 | some x =>
  obtain⟨k',rfl⟩:=aC x rfl
  cases ha with
  | none=>have:=mE rfl;subst this;simp [Instr.sliceBounds,e2]
  | some y=>obtain⟨k,rfl⟩:=dg y rfl;simp [Instr.sliceBounds,e1,e2]
theorem slice_bounds3 (len cap:Nat) (la:Option Value) (a h m:Nat) (k k':IntKind) (aC:∀ y,la=some y->∃ k,y=.int k (a:Nat)) (jM:la=none->a=0) (h1:a<=h) (h2:h<=m) (h3:m<=cap) :
  (Instr.sliceBounds true len cap la (some (.int k (h:Nat))) (some (.int k' (m:Nat)))).run P w=.ok (a,h,m) w:=by
 have e0:∀ (c:BoundsCode),(Instr.sliceBound (.int k' (m:Nat)) cap c).run P w=.ok m w:=fun c=>by
  have:=run_sliceBound (P:=P) w k' (m:Int) cap c J J;simpa using this
 have e1:∀ (c:BoundsCode),(Instr.sliceBound (.int k (h:Nat)) m c).run P w=.ok h w:=fun c=>by
  have:=run_sliceBound (P:=P) w k (h:Int) m c J J;simpa using this
 have e2:∀ (k:IntKind) (c:BoundsCode),(Instr.sliceBound (.int k (a:Nat)) h c).run P w=.ok a w:=fun k c=>by
  have:=run_sliceBound (P:=P) w k (a:Int) h c J J;simpa using this
 cases la with
 | none =>
  have:=jM rfl;subst this;simp [Instr.sliceBounds,e0,e1]
 | some x =>
  obtain⟨k',rfl⟩:=aC x rfl;simp [Instr.sliceBounds,e0,e1,e2]
theorem places_list:∀ (fs:List Field) (ls:List (Nat × Bool)) (off:Nat),LayOK P off fs ls ->
  ∃ pl:List (Nat × Nat),(fs.mapM fun f=>do pure (f.offset,<-sizeOf f.type):Sem (List (Nat × Nat))).run P w=.ok pl w/\∀ k n,ls[k]?=some n->pl[k]?=some (off+sumL (ls.take k),n.1)
 | [],[],_,_=>⟨[],rfl,fun k n h=>by simp at h⟩
 | [],_ :: _,_,h=>by simp [LayOK] at h
 | _ :: _,[],_,h=>by simp [LayOK] at h
 | f :: fs,(n,ag) :: r,off,h=>by
   simp only [LayOK] at h;obtain⟨h1,h2,h3⟩:=h;obtain⟨pl,e1,e2⟩:=places_list fs r (off+n) h3;refine⟨(off,n) :: pl,?_,?_⟩
   ·simp only [List.mapM_cons,Sem.run_bind,run_sizeOf h2,Result.andThen_ok,Sem.run_pure,e1,h1]
   intro k m hk
   cases k with
   | zero=>simp at hk;subst hk;simp [sumL]
   | succ k =>
    have:=e2 k m (by simpa using hk);simp only [List.getElem?_cons_succ,this,pk,sumL];congr 2;omega
theorem csizes_rep {n sz:Nat} {ag:Bool}:∀ (fs:List LV) (k:Nat),(∀ z∈fs,lay z=(sz,ag))->k<=fs.length->csizes (fs.take k)=k*sz
 | _,0,_,_=>by simp [csizes]
 | [],k+1,_,h=>by simp at h
 | x :: xs,k+1,h,hk=>by
  have h1:x.csize=sz:=by have:=h x aj;simp only [lay,vU] at this;exact this.1
  rw [pk,csizes,h1,csizes_rep (n:=n) xs k (fun z hz=>h z (by simp [hz])) (by simpa using hk),Nat.succ_mul,Nat.add_comm]
theorem lay_rep {fs:List LV} {n sz:Nat} {ag:Bool} (h:fs.map lay=ai n (sz,ag)):fs.length=n/\∀ z∈fs,lay z=(sz,ag):=by
 refine⟨by have:=congrArg List.length h;simpa using this,fun z hz=>?_⟩;have:lay z∈fs.map lay:=List.mem_map_of_mem hz;rw [h] at this;exact(List.mem_replicate.1 this).2
theorem run_indexAt_array {T E:TypeId} {n sz:Nat} {ag:Bool} (hT:P.underlying T=some (.array n E)) (hE:TyIs P E sz ag) (k:IntKind) (m:Int) (b off:Nat) (h0:0<=m) (h1:m<n) :
  (Instr.indexAt T (.pointer (some ⟨b,off,none⟩)) (.int k m)).run P w=.ok (.pointer (some ⟨b,off+m.toNat*sz,none⟩)) w:=by
 have h2:(0<=m/\m<(n:Int)):=⟨h0,h1⟩;simp [Instr.indexAt,Instr.sureAddr,asIntOf,run_underlying hT,run_sizeOf hE,h2,Addr.add_mid]
theorem index_sound {T E:TypeId} {n sz:Nat} {ag:Bool} {fs:List LV} {x:LV} {v:Value} {k:IntKind} {m:Int} (hT:P.underlying T=some (.array n E)) (hE:TyIs P E sz ag) (hf:fs.map lay=ai n (sz,ag)) (h0:0<=m)
  (hx:fs[m.toNat]?=some x) (ak:x≠.any) (h:RepV1 Z μ w (.agg fs) v):∃ u,(Instr.index T v (.int k m)).run P w=.ok u w/\RepV1 Z μ w x u:=by
 obtain⟨hl,sP⟩:=lay_rep hf;obtain⟨cs,rfl,hc⟩:=h.1 rfl;simp only [Rep] at hc;obtain⟨pre,ch,post,e1,e2,e3,e4,_⟩:=RepFs.get fs cs.toList m.toNat x hc hx;have hk:=(fV.1 hx).1;have rL:=sP x (jZ hx);simp only [lay,vU] at rL;obtain⟨u,og,eC⟩:=part_sound (T:=E) (by rw [rL.1,rL.2];exact hE) e1 e4 ak;refine⟨u,?_,eC⟩;have jO:m.toNat*sz=pre.length:=by rw [e2,csizes_rep (n:=n) fs m.toNat sP J]
 have h2:(0<=m/\m<(n:Int)):=⟨h0,J⟩;simp only [Instr.index,asIntOf,Sem.run_bind,Sem.run_pure,Result.andThen_ok,run_underlying hT,if_pos h2,run_sizeOf hE,jO];simpa using og
theorem buildA_sound {T E:TypeId} {zs:List LV} {ps:Array (Nat × Operand)} {n sz:Nat} {ag:Bool} (hT:P.underlying T=some (.array n E)) (hE:TyIs P E sz ag) (hf:∀ z∈zs,lay z=(sz,ag)) (hz:ZeroOK P T (.agg zs))
  (hp:∀ p∈ps.toList,∃ z,zs[p.1]?=some z/\lay (ρ p.2)=lay z/\ρ p.2≠.any/\∀ m,ρ p.2≠.tup m) (aJ:∀ p∈ps.toList,RepV Z μ w (ρ p.2) (a.eval p.2)) :
  ∃ v,(Instr.build T (ps.map fun(i,x)=>(i,a.eval x))).run P w=.ok v w/\RepV Z μ w (.agg (buildL zs (ps.toList.map fun p=>(p.1,ρ p.2)))) v:=by
 obtain⟨i,zv,z1,z2,_,z3⟩:=hz;have mn:=z3 Z μ w;simp only [Rep] at mn;obtain⟨cs,f1,f2⟩:=fill_sound (Z:=Z) (μ:=μ) (w:=w) (ls:=zs.map lay) (fun k=>some (k*sz,sz)) (fun k n hk=>by
   rw [bU,oz] at hk;obtain⟨z,hz,rfl⟩:=hk;have hk:=(fV.1 hz).1;have jL:=hf z (jZ hz);rw [jL,sumL_lay,csizes_rep (n:=0) zs k hf J])
  (ps.toList.map fun p=>(p.1,a.eval p.2)) (ps.toList.map fun p=>(p.1,ρ p.2)) zs zv.cells rfl mn aj
  (fun j p q dx jX=>by
   simp only [bU,oz] at dx jX;obtain⟨x,hx,rfl⟩:=dx;obtain⟨y,hy,rfl⟩:=jX;rw [hx] at hy;cases hy;have hm:=jZ hx;obtain⟨z,_,_,h3,h4⟩:=hp x hm;exact⟨RepV.to1 h4 h3 (aJ x hm),h3⟩)
  (fun q hq=>by
   simp only [bS] at hq;obtain⟨x,hx,rfl⟩:=hq;obtain⟨z,h1,h2,_⟩:=hp x hx;exact⟨lay z,by simp [bU,h1],h2⟩)
 refine⟨.agg cs,?_,⟨fun _=>⟨cs,rfl,by simpa [Rep] using f2⟩,by simp [LV.isAgg]⟩⟩;have oy:(zeroValue T).run P w=.ok zv w:=by simp [zeroValue,typeInfo,z1,z2]
 simp only [Instr.build,Sem.run_bind,oy,Result.andThen_ok,run_underlying hT,run_sizeOf hE];have:(vm (fun x=>match x with | (i,x)=>(i,a.eval x)) ps).toList=ps.toList.map fun p=>(p.1,a.eval p.2):=aj;rw [this,f1];rfl
theorem build_sound {T:TypeId} {zs:List LV} {ps:Array (Nat × Operand)} (hT:StructLay P T (zs.map lay)) (hz:ZeroOK P T (.agg zs))
  (hp:∀ p∈ps.toList,∃ z,zs[p.1]?=some z/\lay (ρ p.2)=lay z/\ρ p.2≠.any/\∀ m,ρ p.2≠.tup m) (aJ:∀ p∈ps.toList,RepV Z μ w (ρ p.2) (a.eval p.2)) :
  ∃ v,(Instr.build T (ps.map fun(i,x)=>(i,a.eval x))).run P w=.ok v w/\RepV Z μ w (.agg (buildL zs (ps.toList.map fun p=>(p.1,ρ p.2)))) v:=by
 obtain⟨i,zv,z1,z2,_,z3⟩:=hz;obtain⟨fields,hu,hl,gC⟩:=hT;have mn:=z3 Z μ w;simp only [Rep] at mn;obtain⟨pl,e1,e2⟩:=places_list (P:=P) (w:=w) fields.toList _ 0 hl;obtain⟨cs,f1,f2⟩:=fill_sound (Z:=Z) (μ:=μ) (w:=w) (ls:=zs.map lay) (fun k=>pl.toArray[k]?) (fun k n hk=>by simpa using e2 k n hk)
  (ps.toList.map fun p=>(p.1,a.eval p.2)) (ps.toList.map fun p=>(p.1,ρ p.2)) zs zv.cells rfl mn aj
  (fun j p q dx jX=>by
   simp only [bU,oz] at dx jX;obtain⟨x,hx,rfl⟩:=dx;obtain⟨y,hy,rfl⟩:=jX;rw [hx] at hy;cases hy;have hm:=jZ hx;obtain⟨z,_,_,h3,h4⟩:=hp x hm;exact⟨RepV.to1 h4 h3 (aJ x hm),h3⟩)
  (fun q hq=>by
   simp only [bS] at hq;obtain⟨x,hx,rfl⟩:=hq;obtain⟨z,h1,h2,_⟩:=hp x hx;exact⟨lay z,by simp [bU,h1],h2⟩)
 refine⟨.agg cs,?_,⟨fun _=>⟨cs,rfl,by simpa [Rep] using f2⟩,by simp [LV.isAgg]⟩⟩;have dW:(fields.mapM fun f=>do pure (f.offset,<-sizeOf f.type):Sem (Array (Nat × Nat))).run P w=.ok pl.toArray w:=by
  rw [Array.mapM_eq_mapM_toList,Sem.run_map,e1];rfl
 have oy:(zeroValue T).run P w=.ok zv w:=by simp [zeroValue,typeInfo,z1,z2]
 simp only [Instr.build,Sem.run_bind,oy,Result.andThen_ok,run_underlying hu,dW];have:(vm (fun x=>match x with | (i,x)=>(i,a.eval x)) ps).toList=ps.toList.map fun p=>(p.1,a.eval p.2):=aj;rw [this,f1];rfl
set_option maxHeartbeats 2000000 in
theorem OpP.sound {op:Op} {r:LV} (ho:OpP P H ρ op r) (aJ:∀ x∈op.operands,RepV Z μ w (ρ x) (a.eval x))
  (hh:∀ b id,μ b=some id->∃ blk,H b=some blk/\BlkRep Z μ w blk id) (dst:Option Tmp) (ty:TypeId) (pos:String) (after:Array Edge) (g:Option (Nat × Bool)) :
  ∃ v,(execOp a.eval ⟨dst,op,ty,pos,after,g⟩).run P w=.ok (.value v) w/\RepV Z μ w r v:=by
 cases ho with
 | move x=>exact⟨a.eval x,rfl,aJ x aE⟩
 | assign x=>exact⟨a.eval x,rfl,aJ x aE⟩
 | @pick c x y t h =>
  have hc:=aJ c aE;rw [h] at hc;have hc:=hc.v_eq;refine⟨if t then a.eval x else a.eval y,by cases t<;>simp [execOp,hc,asBool],?_⟩
  cases t
  ·simpa using aJ y aE
  simpa using aJ x aE
 | @bin op T x y U k i j r hx hy h =>
  have e1:=aJ x aE;rw [hx] at e1;have e1:=e1.v_eq;have e2:=aJ y aE;rw [hy] at e2;have e2:=e2.v_eq;refine⟨r,?_,RepV.v (binI_one h)⟩;have:=run_binI (P:=P) (w:=w) (T:=T) (x:=x) (y:=y) h;simp only [execOp,e1,e2];rw [Sem.run_bind,this];rfl
 | @sh op T x y U k k' i j r hx hy h =>
  have e1:=aJ x aE;rw [hx] at e1;have e1:=e1.v_eq;have e2:=aJ y aE;rw [hy] at e2;have e2:=e2.v_eq;refine⟨r,?_,RepV.v (shI_one h)⟩;have:=run_shI (P:=P) (w:=w) (T:=T) (x:=x) (y:=y) (k':=k') h;simp only [execOp,e1,e2];rw [Sem.run_bind,this];rfl
 | @beq T x y U i j hx hy hT =>
  have e1:=aJ x aE;rw [hx] at e1;have e1:=e1.v_eq;have e2:=aJ y aE;rw [hy] at e2;have e2:=e2.v_eq;exact⟨.bool (i==j),by simp only [execOp,e1,e2];rw [Sem.run_bind,run_eq_bool hT];rfl,RepV.bool⟩
 | @bne T x y U i j hx hy hT =>
  have e1:=aJ x aE;rw [hx] at e1;have e1:=e1.v_eq;have e2:=aJ y aE;rw [hy] at e2;have e2:=e2.v_eq;exact⟨.bool (!(i==j)),by simp only [execOp,e1,e2];rw [Sem.run_bind,run_ne_bool hT];rfl,RepV.bool⟩
 | @not T x i hx =>
  have e1:=aJ x aE;rw [hx] at e1;have e1:=e1.v_eq;exact⟨.bool (!i),by simp [execOp,e1,Op.unary],RepV.bool⟩
 | @neg T x k i hx =>
  have e1:=aJ x aE;rw [hx] at e1;have e1:=e1.v_eq;exact⟨.int k (k.wrap (0-i)),by simp [execOp,e1,Op.unary,Op.intArith],RepV.int⟩
 | @conv S D x k k' n d hS hD hx =>
  have e1:=aJ x aE;rw [hx] at e1;have e1:=e1.v_eq;exact⟨.int k (k.wrap n),by simp [execOp,e1,convert,run_underlying hS,run_underlying hD,Conv.intToInt],RepV.int⟩
 | @extract t i l r ht hr ak =>
  have e1:=aJ t aE;rw [ht] at e1;obtain⟨vs,e2,e3⟩:=e1;obtain⟨v,h1,h2⟩:=RepVL.get _ _ _ _ e3 hr;refine⟨v,?_,RepV.of1 ak h2⟩;have:vs[i]?=some v:=by rw [<-tA];exact h1
  simp [execOp,e2,Instr.extract,this]
 | @field T x k fs r hx hT hr ak =>
  have e1:=aJ x aE;rw [hx] at e1;obtain⟨u,h1,h2⟩:=field_sound (P:=P) (w:=w) hT hr (LV.pure_ne_any ak) (RepV.to1 aj aj e1);exact⟨u,by simp [execOp,h1],RepV.of1 (LV.pure_ne_tup ak) h2⟩
 | @fieldAddrB T p k fs r hp hT hr =>
  have e1:=aJ p aE;rw [hp] at e1;have e2:=e1.2 rfl;simp only [Rep] at e2;obtain⟨blk,off,cc,U,fz,part,rest,h1,h2,h3,h4,h5,h6,h7⟩:=e2;obtain⟨pre,ch,post,g1,g2,g3,g4,_⟩:=RepFs.get fs part k r h6 hr;have hk:k<(fs.map lay).length:=by rw [aA];exact(fV.1 hr).1
  have hf:=run_fieldAt (P:=P) (w:=w) hT hk blk off;rw [sumL_lay] at hf;refine⟨.pointer (some ⟨blk,off+csizes (fs.take k),none⟩),?_,⟨by simp [LV.isAgg],fun _=>?_⟩⟩
  ·simp only [b7,and_true] at h1;simp [execOp,h1,hf]
  simp only [Rep];refine⟨blk,_,cc,U,fz,ch,post++rest,rfl,h2,h3,?_,g3,g4,(pures_iff _).1 (by simpa [LV.pure] using h7) _ (jZ hr)⟩;rw [<-je,h4,g1,<-g2];simp
 | @fieldAddrE T p k b sz i o ls hp hT hk =>
  have e1:=aJ p aE;rw [hp] at e1;have e2:=e1.2 rfl;simp only [Rep] at e2;obtain⟨id,h1,h2⟩:=e2;simp only [b7,and_true] at h1;have hf:=run_fieldAt (P:=P) (w:=w) hT hk id (i*sz+o);refine⟨.pointer (some ⟨id,i*sz+o+sumL (ls.take k),none⟩),by simp [execOp,h1,hf],⟨by simp [LV.isAgg],fun _=>?_⟩⟩;simp only [Rep];exact⟨id,by rw [fT],h2⟩
 | @idxA T E x i n fs k m r sz ag hx hT hE hf hi h0 hr hp =>
  have e1:=aJ x aE;rw [hx] at e1;have e2:=aJ i aE;rw [hi] at e2;have e2:=e2.v_eq;obtain⟨u,h1,h2⟩:=index_sound (P:=P) (w:=w) (k:=k) hT hE hf h0 hr (LV.pure_ne_any hp) (RepV.to1 aj aj e1);exact⟨u,by simp [execOp,e2,h1],RepV.of1 (LV.pure_ne_tup hp) h2⟩
 | @idxAE T E x j n b sz i o k m es ag hx hT hE hi h0 hm =>
  have e1:=aJ x aE;rw [hx] at e1;have e3:=aJ j aE;rw [hi] at e3;have e3:=e3.v_eq;have e2:=e1.2 rfl;simp only [Rep] at e2;obtain⟨id,h1,h2⟩:=e2;simp only [b7,and_true] at h1;have hf:=run_indexAt_array (P:=P) (w:=w) hT hE k m id (i*sz+o) h0 hm;refine⟨.pointer (some ⟨id,i*sz+o+m.toNat*es,none⟩),by simp [execOp,h1,e3,hf],⟨by simp [LV.isAgg],fun _=>?_⟩⟩;simp only [Rep];exact⟨id,by rw [fT],h2⟩
 | @idxAB T E x i n fs k m r sz ag hx hT hE hf hi h0 hr =>
  have e1:=aJ x aE;rw [hx] at e1;have e3:=aJ i aE;rw [hi] at e3;have e3:=e3.v_eq;have e2:=e1.2 rfl;simp only [Rep] at e2;obtain⟨blk,off,cc,U,fz,part,rest,h1,h2,h3,h4,h5,h6,h7⟩:=e2;obtain⟨hl,sP⟩:=lay_rep hf;have hk:=(fV.1 hr).1;obtain⟨pre,ch,post,g1,g2,g3,g4,_⟩:=RepFs.get fs part m.toNat r h6 hr;have gD:=run_indexAt_array (P:=P) (w:=w) hT hE k m blk off h0 J;rw [<-csizes_rep (n:=n) fs m.toNat sP J] at gD;refine⟨.pointer (some ⟨blk,off+csizes (fs.take m.toNat),none⟩),?_,⟨by simp [LV.isAgg],fun _=>?_⟩⟩
  ·simp only [b7,and_true] at h1;simp [execOp,h1,e3,gD]
  simp only [Rep];refine⟨blk,_,cc,U,fz,ch,post++rest,rfl,h2,h3,?_,g3,g4,(pures_iff _).1 (by simpa [LV.pure] using h7) _ (jZ hr)⟩;rw [<-je,h4,g1,<-g2];simp
 | @loadB T p c hp hT hc =>
  have e1:=aJ p aE;rw [hp] at e1;have e2:=e1.2 rfl;simp only [Rep] at e2;obtain⟨blk,off,cc,U,fz,part,rest,h1,h2,h3,h4,h5,h6,h7⟩:=e2;simp only [b7,and_true] at h1;obtain⟨v,g1,g2⟩:=load_sound (P:=P) hT h3 h4 h6 (LV.pure_ne_any hc);exact⟨v,by simp [execOp,h1,g1],RepV.of1 (LV.pure_ne_tup hc) g2⟩
 | @loadE T p b sz i o blk x r n ag hp hb hs hi hx hr hT =>
  have e1:=aJ p aE;rw [hp] at e1;have e2:=e1.2 rfl;simp only [Rep] at e2;obtain⟨id,h1,h2⟩:=e2;simp only [b7,and_true] at h1;obtain⟨blk',lF,c,U,part,rest,q1,q2,q3⟩:=hh b id h2;rw [hb] at lF;cases lF;obtain⟨ch,post,k1,k2,k3⟩:=idx_cells (off:=0) (by simpa using q2) q3 hi;obtain⟨pre,lL,lW,j1,j2,j3,j4,j5,j6,j7,j8⟩:=LV.at_spec x o n ag r ch hr k3 (by rw [k2,hs,hx]);have hd:c.toList.drop (i*sz+o)=lL++(lW++post):=by
   rw [cJ,hs] at k1;rw [<-je,k1,j1,<-j2];simp
  obtain⟨v,g1,g2⟩:=load_sound (P:=P) (y:=r) (by rw [j5,j6];exact hT) q1 hd j4 j7;exact⟨v,by simp [execOp,h1,g1],RepV.of1 j8 g2⟩
 | @nilChkE x b sz i o hx =>
  have e1:=aJ x aE;rw [hx] at e1;have e2:=e1.2 rfl;simp only [Rep] at e2;obtain⟨id,h1,h2⟩:=e2;simp only [b7,and_true] at h1;exact⟨a.eval x,by simp [execOp,h1],e1⟩
 | @nilChkB x c hx =>
  have e1:=aJ x aE;rw [hx] at e1;have e2:=e1.2 rfl;simp only [Rep] at e2;obtain⟨blk,off,cc,U,fz,part,rest,h1,h2⟩:=e2;simp only [b7,and_true] at h1;exact⟨a.eval x,by simp [execOp,h1],e1⟩
 | @idxL T E x i sz l k n r ag hx hT hE hi h0 hr hc =>
  have e1:=aJ x aE;rw [hx] at e1;have e2:=aJ i aE;rw [hi] at e2;have e2:=e2.v_eq;have e3:=e1.2 rfl;simp only [Rep] at e3;obtain⟨ad,len,cap,h1,h2,h3,h4,h9⟩:=e3;simp only [b7,and_true] at h1;have aG:=(fV.1 hr).1;rcases h4 with h4 | ⟨blk,off,c,U,fz,part,rest,g1,g2,g3,g4,g5⟩
  ·subst h4;simp at aG
  subst g1;have hn:n<(len:Int):=J;have:=run_indexAt_slice (P:=P) (w:=w) hT hE k n len cap blk off h0 hn;obtain⟨ch,post,k1,k2,k3⟩:=idx_cells g4 g5 hr;refine⟨_,by simp only [execOp,h1,e2,Sem.run_bind,this];rfl,⟨by simp [LV.isAgg],fun _=>?_⟩⟩;simp only [Rep];exact⟨blk,_,c,U,fz,ch,post,rfl,g2,g3,k1,by rw [k2,hc],k3,(pures_iff _).1 h9 _ (jZ hr)⟩
 | @idxR T E x i b sz off len k n ag hx hT hE hi h0 hn =>
  have e1:=aJ x aE;rw [hx] at e1;have e2:=aJ i aE;rw [hi] at e2;have e2:=e2.v_eq;have e3:=e1.2 rfl;simp only [Rep] at e3;rcases e3 with⟨_,e3⟩ | ⟨id,cap,c,U,fz,h1,h2,h3,h4,h5⟩
  ·omega
  simp only [b7,and_true] at h1;have:=run_indexAt_slice (P:=P) (w:=w) hT hE k n len cap id (off*sz) h0 hn;refine⟨_,by simp only [execOp,h1,e2,Sem.run_bind,this];rfl,⟨by simp [LV.isAgg],fun _=>?_⟩⟩;simp only [Rep];exact⟨id,by rw [cI];rfl,h2⟩
 | @sliceL T E x sz ag l lo hi la ha hx hT hE aC jM dg mE h1 h2 =>
  have e1:=aJ x aE;rw [hx] at e1;have e3:=e1.2 rfl;simp only [Rep] at e3;obtain⟨ad,len,cap,q1,q2,q3,q4,q9⟩:=e3;simp only [b7,and_true] at q1;have hb:=slice_bounds (P:=P) (w:=w) true len cap (la.map a.eval) (ha.map a.eval) lo hi
   (fun y hy=>by
    cases la with
    | none=>simp at hy
    | some z =>
     simp only [ju,bF] at hy;obtain⟨k,hk⟩:=aC z rfl;have:=aJ z aE;rw [hk] at this;exact⟨k,by rw [<-hy];exact this.v_eq⟩)
   (fun h=>jM dX)
   (fun y hy=>by
    cases ha with
    | none=>simp at hy
    | some z =>
     simp only [ju,bF] at hy;obtain⟨k,hk⟩:=dg z rfl;have:=aJ z aE;rw [hk] at this;exact⟨k,by rw [<-hy];exact this.v_eq⟩)
   (fun h=>by rw [q2];exact mE dX) h1 J
  have bV:(Instr.sliceAt T (.slice ad len cap) (la.map a.eval) (ha.map a.eval) none).run P w=.ok (.slice (if cap=lo then ad else ad.map (·.add (lo*sz))) (hi-lo) (cap-lo)) w:=by
   simp only [Instr.sliceAt,Sem.run_bind,run_underlying hT,Result.andThen_ok,Instr.slice,hb,run_sizeOf hE,Sem.run_pure]
  refine⟨_,by simp only [execOp,q1,aaK,Sem.run_bind,bV];rfl,⟨by simp [LV.isAgg],fun _=>?_⟩⟩;simp only [Rep];refine⟨_,_,_,rfl,by simp;omega,J,?_,(pures_iff _).2 fun x hx=>(pures_iff _).1 q9 x (oM (oH hx))⟩;by_cases aG:lo<hi
  ·right;rcases q4 with q4 | ⟨blk,off,c,U,fz,part,rest,g1,g2,g3,g4,g5⟩
   ·subst q4;simp at h2;omega
   subst g1;have eQ:¬ cap=lo:=J;obtain⟨c1,c2,d1,d2,d3⟩:=RepAll.split (l.take hi) (l.drop hi) part (by rw [kK];exact g5);obtain⟨c3,c4,d4,d5,d6⟩:=RepAll.split ((l.take hi).take lo) ((l.take hi).drop lo) c1 (by rw [kK];exact d2);have ky:=RepAll.length _ _ d5;simp only [bZ] at ky;refine⟨blk,off+lo*sz,c,U,fz,c4,c2++rest,by simp [eQ,Addr.add_mid],g2,g3,?_,d6⟩;rw [<-je,g4,d1,d4];have:lo*sz=c3.length:=by rw [ky];congr 1;omega
   rw [this];simp
  left;have:lo=hi:=J;subst this;apply List.eq_nil_of_length_eq_zero;simp
 | @sliceR T E x b sz off len ag lo hi la ha hx hT hE aC jM dg mE h1 h2 gC =>
  have e1:=aJ x aE;rw [hx] at e1;have e3:=e1.2 rfl;simp only [Rep] at e3;rcases e3 with⟨_,e3⟩ | ⟨id,cap,c,U,fz,q1,q2,q3,q4,q5⟩
  ·omega
  simp only [b7,and_true] at q1;have hb:=slice_bounds (P:=P) (w:=w) true len cap (la.map a.eval) (ha.map a.eval) lo hi
   (fun y hy=>by
    cases la with
    | none=>simp at hy
    | some z =>
     simp only [ju,bF] at hy;obtain⟨k,hk⟩:=aC z rfl;have:=aJ z aE;rw [hk] at this;exact⟨k,by rw [<-hy];exact this.v_eq⟩)
   (fun h=>jM dX)
   (fun y hy=>by
    cases ha with
    | none=>simp at hy
    | some z =>
     simp only [ju,bF] at hy;obtain⟨k,hk⟩:=dg z rfl;have:=aJ z aE;rw [hk] at this;exact⟨k,by rw [<-hy];exact this.v_eq⟩)
   (fun h=>mE dX) h1 J
  have bV:(Instr.sliceAt T (.slice (some ⟨id,off*sz,none⟩) len cap) (la.map a.eval) (ha.map a.eval) none).run P w =
    .ok (.slice (if cap=lo then some ⟨id,off*sz,none⟩ else some ⟨id,off*sz+lo*sz,none⟩) (hi-lo) (cap-lo)) w:=by
   simp only [Instr.sliceAt,Sem.run_bind,run_underlying hT,Result.andThen_ok,Instr.slice,hb,run_sizeOf hE,Sem.run_pure,ju,Addr.add_mid]
  refine⟨_,by simp only [execOp,q1,aaK,Sem.run_bind,bV];rfl,⟨by simp [LV.isAgg],fun _=>?_⟩⟩;simp only [Rep];have eQ:¬ cap=lo:=J;refine .inr ⟨id,cap-lo,c,U,fz,by simp [eQ,cI],q2,J,q4,?_⟩;have:off+lo+(cap-lo)=off+cap:=J;rw [this];exact q5
 | @sliceR3 T E x b sz off len ag lo hi mx la z zm k k' hx hT hE aC jM dg hmx h1 h2 h3 gC =>
  have e1:=aJ x aE;rw [hx] at e1;have e3:=e1.2 rfl;simp only [Rep] at e3;rcases e3 with⟨_,e3⟩ | ⟨id,cap,c,U,fz,q1,q2,q3,q4,q5⟩
  ·omega
  simp only [b7,and_true] at q1;have g1:=aJ z aE;rw [dg] at g1;have g2:=aJ zm aE;rw [hmx] at g2;have hb:=slice_bounds3 (P:=P) (w:=w) len cap (la.map a.eval) lo hi mx k k'
   (fun y hy=>by
    cases la with
    | none=>simp at hy
    | some z =>
     simp only [ju,bF] at hy;obtain⟨k,hk⟩:=aC z rfl;have:=aJ z aE;rw [hk] at this;exact⟨k,by rw [<-hy];exact this.v_eq⟩)
   (fun h=>jM dX) h1 h2 J
  have bV:(Instr.sliceAt T (.slice (some ⟨id,off*sz,none⟩) len cap) (la.map a.eval) (some (a.eval z)) (some (a.eval zm))).run P w =
    .ok (.slice (if mx=lo then some ⟨id,off*sz,none⟩ else some ⟨id,off*sz+lo*sz,none⟩) (hi-lo) (mx-lo)) w:=by
   rw [g1.v_eq,g2.v_eq];simp only [Instr.sliceAt,Sem.run_bind,run_underlying hT,Result.andThen_ok,Instr.slice,hb,run_sizeOf hE,Sem.run_pure,ju,Addr.add_mid]
  refine⟨_,by simp only [execOp,q1,ju,Sem.run_bind,bV];rfl,⟨by simp [LV.isAgg],fun _=>?_⟩⟩;simp only [Rep];have eQ:¬ mx=lo:=J;refine .inr ⟨id,mx-lo,c,U,fz,by simp [eQ,cI],q2,J,q4,?_⟩;have:off+lo+(mx-lo)=off+mx:=J;rw [this];exact Nat.le_trans (Nat.mul_le_mul_right _ J) q5
 | @lenL T x sz l d as hx has hT =>
  have e1:=aJ x dI;rw [hx] at e1;have e3:=e1.2 rfl;simp only [Rep] at e3;obtain⟨ad,len,cap,q1,q2,_⟩:=e3;simp only [b7,and_true] at q1;subst has;exact⟨.int .i64 (l.length:Nat),by simp [execOp,resolve,invoke,builtin,q1,Builtin.len_,run_underlying hT,goInt,q2],RepV.int⟩
 | @lenR T x b sz off len d as hx has hT =>
  have e1:=aJ x dI;rw [hx] at e1;have e3:=e1.2 rfl;simp only [Rep] at e3;subst has;rcases e3 with⟨q1,rfl⟩ | ⟨id,cap,c,U,fz,q1,_⟩
  ·simp only [b7,and_true] at q1;exact⟨.int .i64 (0:Nat),by simp [execOp,resolve,invoke,builtin,q1,Builtin.len_,run_underlying hT,goInt],RepV.int⟩
  simp only [b7,and_true] at q1;exact⟨.int .i64 (len:Nat),by simp [execOp,resolve,invoke,builtin,q1,Builtin.len_,run_underlying hT,goInt],RepV.int⟩
 | @lenC T x b sz off len cp d as hx has hT =>
  have e1:=aJ x dI;rw [hx] at e1;have e3:=e1.2 rfl;simp only [Rep] at e3;subst has;obtain⟨id,c,U,fz,q1,_⟩:=e3;simp only [b7,and_true] at q1;exact⟨.int .i64 (len:Nat),by simp [execOp,resolve,invoke,builtin,q1,Builtin.len_,run_underlying hT,goInt],RepV.int⟩
 | @capC T x b sz off len cp d as hx has hT =>
  have e1:=aJ x dI;rw [hx] at e1;have e3:=e1.2 rfl;simp only [Rep] at e3;subst has;obtain⟨id,c,U,fz,q1,_⟩:=e3;simp only [b7,and_true] at q1;exact⟨.int .i64 (cp:Nat),by simp [execOp,resolve,invoke,builtin,q1,Builtin.cap_,run_underlying hT,goInt],RepV.int⟩
 | @sliceC T E x b sz off len cp ag lo hi la ha hx hT hE aC jM dg mE h1 h2 gC =>
  have e1:=aJ x aE;rw [hx] at e1;have e3:=e1.2 rfl;simp only [Rep] at e3;obtain⟨id,c,U,fz,q1,q2,q3,q4,q5⟩:=e3;simp only [b7,and_true] at q1;have hb:=slice_bounds (P:=P) (w:=w) true len cp (la.map a.eval) (ha.map a.eval) lo hi
   (fun y hy=>by
    cases la with
    | none=>simp at hy
    | some z =>
     simp only [ju,bF] at hy;obtain⟨k,hk⟩:=aC z rfl;have:=aJ z aE;rw [hk] at this;exact⟨k,by rw [<-hy];exact this.v_eq⟩)
   (fun h=>jM dX)
   (fun y hy=>by
    cases ha with
    | none=>simp at hy
    | some z =>
     simp only [ju,bF] at hy;obtain⟨k,hk⟩:=dg z rfl;have:=aJ z aE;rw [hk] at this;exact⟨k,by rw [<-hy];exact this.v_eq⟩)
   (fun h=>mE dX) h1 h2
  have bV:(Instr.sliceAt T (.slice (some ⟨id,off*sz,none⟩) len cp) (la.map a.eval) (ha.map a.eval) none).run P w =
    .ok (.slice (if cp=lo then some ⟨id,off*sz,none⟩ else some ⟨id,off*sz+lo*sz,none⟩) (hi-lo) (cp-lo)) w:=by
   simp only [Instr.sliceAt,Sem.run_bind,run_underlying hT,Result.andThen_ok,Instr.slice,hb,run_sizeOf hE,Sem.run_pure,ju,Addr.add_mid]
  refine⟨_,by simp only [execOp,q1,aaK,Sem.run_bind,bV];rfl,⟨by simp [LV.isAgg],fun _=>?_⟩⟩;simp only [Rep];have eQ:¬ cp=lo:=J;refine⟨id,c,U,fz,by simp [eQ,cI],q2,J,q4,?_⟩;have:off+lo+(cp-lo)=off+cp:=J;rw [this];exact q5
 | @lenN T x d as hx has hT =>
  have e1:=aJ x dI;rw [hx] at e1;have e1:=e1.v_eq;subst has;exact⟨.int .i64 (0:Nat),by simp [execOp,resolve,invoke,builtin,e1,Builtin.len_,run_underlying hT,goInt],RepV.int⟩
 | @min2 x y k i j as hx hy =>
  have e1:=aJ x dI;rw [hx] at e1;have e1:=e1.v_eq;have e2:=aJ y dI;rw [hy] at e2;have e2:=e2.v_eq;exact⟨.int k (if j<i then j else i),by simp [execOp,resolve,invoke,builtin,e1,e2,Builtin.min_,Builtin.min2],RepV.int⟩
 | @max2 x y k i j as hx hy =>
  have e1:=aJ x dI;rw [hx] at e1;have e1:=e1.v_eq;have e2:=aJ y dI;rw [hy] at e2;have e2:=e2.v_eq;exact⟨.int k (if j > i then j else i),by simp [execOp,resolve,invoke,builtin,e1,e2,Builtin.max_,Builtin.max2],RepV.int⟩
 | @indexS T x i s k n b hx hT hi h0 hb =>
  have e1:=aJ x aE;rw [hx] at e1;have e1:=e1.v_eq;have e2:=aJ i aE;rw [hi] at e2;have e2:=e2.v_eq;exact⟨.int .u8 b.toNat,by simp [execOp,e1,e2,Instr.index,asIntOf,run_underlying hT,h0,hb],RepV.int⟩
 | @ext2 f xs as fn e vs r1 r2 hf fS hb hn he hx hr h1 h2 =>
  have hargs:xs.map a.eval=vs.toArray:=by
   apply l8;rw [Array.toList_map];have:∀ (l:List Operand) (vs:List Value),l.map ρ=vs.map LV.v->(∀ x∈l,RepV Z μ w (ρ x) (a.eval x))->l.map a.eval=vs:=by
    intro l
    induction l with
    | nil =>
         intro vs h _;cases vs with
         | nil=>rfl
         | cons=>simp at h
    | cons y ys ih =>
     intro vs h hr
     cases vs with
     | nil=>simp at h
     | cons v vs =>
      simp only [gA,b7] at h ⊢;have h3:=hr y aj;rw [h.1] at h3;exact⟨h3.v_eq,ih vs h.2 (fun z hz=>hr z (by simp [hz]))⟩
   exact this xs.toList vs hx (fun x hx=>aJ x (by simp [Op.operands,Call.operands];right;simpa using hx))
  have hc:=run_callFunc_extern (P:=P) (args:=vs.toArray) hf fS hb hn he w;refine⟨.tuple #[r1,r2],?_,⟨#[r1,r2],rfl,?_⟩⟩
  ·rw [hr w] at hc;simp only [execOp,resolve,Act.eval,Deferred.ofValue,Sem.run_bind,Sem.run_pure,Result.andThen_ok,invoke];rw [hargs];simp only [Array.append_empty,Array.empty_append];rw [hc];rfl
  exact⟨r1,[r2],rfl,⟨by simp [LV.isAgg],fun _=>by simp [Rep,h1]⟩,r2,[],rfl,⟨by simp [LV.isAgg],fun _=>by simp [Rep,h2]⟩,rfl⟩
 | @buildA T E zs ps n sz ag hT hE hf hz hp =>
  have hm:∀ p∈ps.toList,RepV Z μ w (ρ p.2) (a.eval p.2):=fun p hp=>aJ p.2 (by simp [Op.operands];exact⟨p.1,by simpa using hp⟩);obtain⟨v,h1,h2⟩:=buildA_sound (P:=P) (Z:=Z) (μ:=μ) (w:=w) (a:=a) hT hE hf hz hp hm;exact⟨v,by simp only [execOp];rw [Sem.run_bind,h1];rfl,h2⟩
 | @build T zs ps hT hz hp =>
  have hm:∀ p∈ps.toList,RepV Z μ w (ρ p.2) (a.eval p.2):=fun p hp=>aJ p.2 (by simp [Op.operands];exact⟨p.1,by simpa using hp⟩);obtain⟨v,h1,h2⟩:=build_sound (P:=P) (Z:=Z) (μ:=μ) (w:=w) (a:=a) hT hz hp hm;exact⟨v,by simp only [execOp];rw [Sem.run_bind,h1];rfl,h2⟩
end
end Go.Lg
namespace Go.Lg
def Heap.le (H H':Heap):Prop:=∀ b blk,H b=some blk->∃ m,H' b=some ⟨blk.sz,blk.vals,m⟩/\(blk.mt=false->m=false)/\(blk.mt=true->m=false->b≠0)
def upd (μ:Nat->Option Nat) (d id:Nat):Nat->Option Nat:=fun b=>if b=d then some id else μ b
section
variable {P:Program} {W w w':World} {X:XS} {Z0 Z:Nat->Prop} {μ:Nat->Option Nat} {H:Heap}
theorem BlkRep.mono {Z':Nat->Prop} {av:Nat->Option Nat} {blk:Blk} {id:Nat} (hz:∀ id,Z id->Z' id) (hm:∀ b id,μ b=some id->av b=some id) (hf:Frame Z μ w w')
  (uZ:w'.heap[id]?=w.heap[id]?) (h:BlkRep Z μ w blk id):BlkRep Z' av w' blk id:=by
 obtain⟨c,T,part,rest,h1,h2,h3⟩:=h;exact⟨c,T,part,rest,uZ.trans h1,h2,h3.mono hz hm hf⟩
theorem Core.lt (hc:Core W X Z0 μ Z H w) {b id:Nat} (h:μ b=some id):id<w.heap.size:=by
 obtain⟨blk,_,c,T,part,rest,h1,_⟩:=hc.heap b id h;exact(eB.1 h1).1
theorem Core.widen {H':Heap} (hc:Core W X Z0 μ Z H w) (hle:H.le H'):∃ Z',Core W X Z0 μ Z' H' w/\(∀ id,Z id->Z' id):=by
 refine⟨fun id=>Z id\/∃ b blk,μ b=some id/\H' b=some blk/\blk.mt=false,⟨hc.keep,?_,fun id h=>.inl (hc.zsup id h),?_,hc.inj,hc.own,hc.x0,hc.xlt,hc.x1,?_,fun b id blk h1 h2 h3=>.inr ⟨b,blk,h1,h2,h3⟩,?_⟩,fun id h=>.inl h⟩
 ·rintro id (h | ⟨b,blk,h,_⟩)
  ·exact hc.zone id h
  exact hc.lt h
 ·rintro id (h | ⟨b,blk,h,h2,h3⟩)
  ·exact hc.zsub id h
  obtain⟨kX,g1,_⟩:=hc.heap b id h;obtain⟨m,g2,g3,g4⟩:=hle b kX g1;rw [g2] at h2;cases h2;simp only at h3;subst h3
  cases hm:kX.mt with
  | false=>exact hc.zsub id (hc.frz b id kX h g1 hm)
  | true =>
   rcases hc.own b id h with h | h' | h'
   ·exact .inr (.inl h)
   ·exact absurd (hc.x0 b id h h') (g4 hm rfl)
   exact .inr (.inr h')
 ·rintro b id blk h1 h2 h3 (h | ⟨b',blk',h4,h5,h6⟩)
  ·obtain⟨kX,g1,_⟩:=hc.heap b id h1;obtain⟨m,g2,g3,_⟩:=hle b kX g1;rw [g2] at h2;cases h2
   cases hm:kX.mt with
   | false=>have:=g3 hm;subst this;simp at h3
   | true=>exact hc.mutz b id kX h1 g1 hm h
  have:=hc.inj b b' id h1 h4;subst this;rw [h2] at h5;cases h5;simp [h3] at h6
 intro b id h;obtain⟨blk,g1,g2⟩:=hc.heap b id h;obtain⟨m,g3,_⟩:=hle b blk g1;refine⟨_,g3,?_⟩;obtain⟨c,T,part,rest,h1,h2,h3⟩:=g2;exact⟨c,T,part,rest,h1,h2,h3.mono (fun id h=>.inl h) (fun _ _ h=>h) (Frame.refl _ _ _) |>.mono (fun _ h=>h) (fun _ _ h=>h) ⟨fun _ _=>rfl,(Frame.refl Z μ w).m⟩⟩
structure Pushed (w w':World) (o:Obj):Prop where
 os:w'.os=w.os
 tape:w'.tape=w.tape
 output:w'.output=w.output
 heap:w'.heap=w.heap.push o
theorem Pushed.old {o:Obj} (h:Pushed w w' o) {k:Nat} (hk:k<w.heap.size):w'.heap[k]?=w.heap[k]?:=by
 rw [h.heap,Array.getElem?_push,if_neg J]
theorem Pushed.new {o:Obj} (h:Pushed w w' o):w'.heap[w.heap.size]?=some o:=by
 rw [h.heap];simp
theorem Pushed.alloc (w:World) (o:Obj):Pushed w (w.alloc o) o:=⟨rfl,rfl,rfl,rfl⟩
theorem Core.frame_old (hc:Core W X Z0 μ Z H w) (hold:∀ k,k<w.heap.size->w'.heap[k]?=w.heap[k]?):Frame Z μ w w' :=
 ⟨fun id h=>hold id (hc.zone id h),fun _ id h c _ _ hh=>⟨c,(hold id (hc.lt h)).trans hh,rfl⟩⟩
theorem Core.push {d:Nat} {blk:Blk} {c:Array Value} {T:TypeId} {part rest:List Value} (hc:Core W X Z0 μ Z H w) (hd:H d=some blk) (oT:μ d=none)
  (hp:Pushed w w' (.cells c T (0,0))) (h1:c.toList=part++rest) (h2:RepAll Z μ w blk.sz blk.vals part) :
  ∃ Z',Core W X Z0 (upd μ d w.heap.size) Z' H w'/\(∀ id,Z id->Z' id)/\(∀ b id,μ b=some id->upd μ d w.heap.size b=some id)/\Frame Z μ w w' /\
   upd μ d w.heap.size d=some w.heap.size/\w'.heap[w.heap.size]?=some (.cells c T (0,0)):=by
 have oY:∀ b id,μ b=some id->upd μ d w.heap.size b=some id:=fun b id h=>by
  unfold upd;split
  ·subst_vars;rw [oT] at h;cases h
  exact h
 have aY:=hc.frame_old (fun k hk=>hp.old hk);have hinv:∀ b id,upd μ d w.heap.size b=some id->(b=d/\id=w.heap.size)\/(b≠d/\μ b=some id):=fun b id h=>by
  unfold upd at h;split at h
  ·cases h;exact .inl ⟨by assumption,rfl⟩
  exact .inr ⟨by assumption,h⟩
 have hzz:∀ id,Z id->(Z id\/(blk.mt=false/\id=w.heap.size)):=fun id h=>.inl h;refine⟨fun id=>Z id\/(blk.mt=false/\id=w.heap.size),⟨?_,?_,fun id h=>.inl (hc.zsup id h),?_,?_,?_,?_,hc.xlt,fun id h=>oY 0 id (hc.x1 id h),?_,?_,?_⟩,hzz,oY,aY,by simp [upd],hp.new⟩
 ·exact⟨hp.os.trans hc.keep.os,hp.tape.trans hc.keep.tape,hp.output.trans hc.keep.output,by rw [hp.heap,yZ];have:=hc.keep.size;omega,
   fun k hk hx=>(hp.old (by have:=hc.keep.size;omega)).trans (hc.keep.block k hk hx),
   fun k hx c T fz h=>let ⟨c',g1,g2⟩:=hc.keep.xsz k hx c T fz h;⟨c',(hp.old (eB.1 g1).1).trans g1,g2⟩⟩
 ·rintro id (h | ⟨_,rfl⟩)
  ·have:=hc.zone id h;rw [hp.heap,yZ];omega
  rw [hp.heap,yZ];omega
 ·rintro id (h | ⟨_,rfl⟩)
  ·exact hc.zsub id h
  exact .inr (.inl hc.keep.size)
 ·intro b b' id h h';rcases hinv b id h with⟨rfl,rfl⟩ | ⟨n1,h1⟩<;>rcases hinv b' _ h' with⟨rfl,e⟩ | ⟨n2,h2⟩
  ·rfl
  ·have:=hc.lt h2;omega
  ·have:=hc.lt h1;omega
  exact hc.inj b b' id h1 h2
 ·intro b id h;rcases hinv b id h with⟨rfl,rfl⟩ | ⟨n1,h1⟩
  ·exact .inl hc.keep.size
  exact hc.own b id h1
 ·intro b id h hx;rcases hinv b id h with⟨rfl,rfl⟩ | ⟨n1,h1⟩
  ·have:=hc.xlt _ (.inl hx);have:=hc.keep.size;omega
  exact hc.x0 b id h1 hx
 ·rintro b id bk h hb hm (hz | ⟨jA,rfl⟩)
  ·rcases hinv b id h with⟨rfl,rfl⟩ | ⟨n1,h1⟩
   ·have:=hc.zone _ hz;omega
   exact hc.mutz b id bk h1 hb hm hz
  rcases hinv b _ h with⟨rfl,_⟩ | ⟨n1,h1⟩
  ·rw [hd] at hb;cases hb;simp [hm] at jA
  have:=hc.lt h1;omega
 ·intro b id bk h hb hm;rcases hinv b id h with⟨rfl,rfl⟩ | ⟨n1,h1⟩
  ·rw [hd] at hb;cases hb;exact .inr ⟨hm,rfl⟩
  exact .inl (hc.frz b id bk h1 hb hm)
 intro b id h;rcases hinv b id h with⟨rfl,rfl⟩ | ⟨n1,h3⟩
 ·exact⟨blk,hd,c,T,part,rest,hp.new,h1,h2.mono hzz oY aY⟩
 obtain⟨bk,g1,g2⟩:=hc.heap b id h3;exact⟨bk,g1,g2.mono hzz oY aY (hp.old (hc.lt h3))⟩
end
mutual
inductive Imm (H:Heap):LV->LV->Prop
 | pure {x} (h:x.pure=true):Imm H x x
 | nil (sz):Imm H (.v (.slice none 0 0)) (.list sz [])
 | ref {b sz off len blk} (hb:H b=some blk) (hs:blk.sz=sz) (hp:pures blk.vals=true) (hl:off+len<=blk.vals.length) (hf:blk.mt=false) :
   Imm H (.ref b sz off len) (.list sz ((blk.vals.drop off).take len))
 | eptr {b sz i o blk x y n ag} (hb:H b=some blk) (hs:blk.sz=sz) (hi:blk.vals[i]?=some x) (hx:x.csize=sz) (hy:x.at o n ag=some y) (hp:y.pure=true) (hf:blk.mt=false) :
   Imm H (.eptr b sz i o) (.boxp y)
 | refI {b sz off len blk l'} (hb:H b=some blk) (hs:blk.sz=sz) (hl:off+len<=blk.vals.length) (hf:blk.mt=false) (h:ImmL H ((blk.vals.drop off).take len) l'):Imm H (.ref b sz off len) (.list sz l')
 | agg {l l'} (h:ImmL H l l'):Imm H (.agg l) (.agg l')
inductive ImmL (H:Heap):List LV->List LV->Prop
 | nil:ImmL H [] []
 | cons {x y xs ys} (h:Imm H x y) (t:ImmL H xs ys):ImmL H (x :: xs) (y :: ys)
end
section
variable {W w:World} {X:XS} {Z0 Z:Nat->Prop} {μ av:Nat->Option Nat} {H H':Heap}
mutual
theorem Imm.lay:∀ {x y:LV},Imm H x y->y.isAgg=x.isAgg/\y.csize=x.csize/\y.pure=true
 | _,_,.pure h=>⟨rfl,rfl,h⟩
 | _,_,.nil _=>⟨rfl,rfl,rfl⟩
 | _,_,.ref hb hs hp hl hf=>⟨rfl,rfl,by
   simp only [LV.pure];rw [pures_iff] at hp ⊢;exact fun x hx=>hp x (oH (oM hx))⟩
 | _,_,.eptr hb hs hi hx hy hp hf=>⟨rfl,rfl,by simpa [LV.pure] using hp⟩
 | _,_,.refI hb hs hl hf h=>⟨rfl,rfl,by simpa [LV.pure] using (ImmL.lay h).2⟩
 | _,_,.agg h=>by
   have:=ImmL.lay h;exact⟨rfl,by simp [LV.csize,this.1],by simp [LV.pure,this.2]⟩
theorem ImmL.lay:∀ {x y:List LV},ImmL H x y->csizes y=csizes x/\pures y=true
 | _,_,.nil=>⟨rfl,rfl⟩
 | _,_,.cons h t=>by
   have h1:=Imm.lay h;have h2:=ImmL.lay t;exact⟨by simp [csizes,h1.2.1,h2.1],by simp [pures,h1.2.2,h2.2]⟩
end
theorem ImmL.len:∀ {x y:List LV},ImmL H x y->y.length=x.length
 | _,_,.nil=>rfl
 | _,_,.cons _ t=>by simp [ImmL.len t]
mutual
theorem Imm.sound (hc:Core W X Z0 μ Z H w):∀ {x y:LV} {cs:List Value},Imm H x y->Rep Z μ w x cs->Rep Z av w y cs
 | _,_,_,.pure h,hr=>Rep.repure (fun _ h=>h) (fun _ _=>rfl) _ _ h hr
 | _,_,_,.nil sz,hr=>by
   simp only [Rep] at hr ⊢;exact⟨none,0,0,hr.1,rfl,an _,.inl trivial,rfl⟩
 | _,_,_,@Imm.ref _ b sz off len blk hb hs hp hl hf,hr=>by
   simp only [Rep] at hr ⊢;rcases hr with⟨hr,rfl⟩ | ⟨id,cap,c,T,fz,h1,h2,h3,h4,h5⟩
   ·exact⟨none,0,0,hr,by simp,an _,.inl aj,by simp [pures]⟩
   obtain⟨blk',g1,c',T',part,rest,g2,g3,g4⟩:=hc.heap b id h2;rw [hb] at g1;cases g1;rw [h4] at g2;cases g2;refine⟨_,_,_,h1,by simp;omega,h3,?_,(pures_iff _).2 fun x hx=>(pures_iff _).1 hp x (oH (oM hx))⟩;have hz:=hc.frz b id blk h2 hb hf;right;obtain⟨c1,c2,d1,d2,d3⟩:=RepAll.split (blk.vals.take off) (blk.vals.drop off) part rK;obtain⟨c3,c4,d4,d5,d6⟩:=RepAll.split ((blk.vals.drop off).take len) ((blk.vals.drop off).drop len) c2 (by rw [kK];exact d3);have en:=RepAll.length _ _ d2;rw [bZ,eP J,hs] at en;refine⟨id,off*sz,c,T,(0,0),c3,c4++rest,rfl,hz,h4,?_,?_⟩
   ·rw [g3,d1,d4,<-en];simp
   rw [hs] at d5;refine RepAll.repure (fun _ h=>h) (fun _ _=>rfl) _ _ _ ?_ d5;rw [pures_iff] at hp ⊢;exact fun x hx=>hp x (oH (oM hx))
 | _,_,_,@Imm.eptr _ b sz i o blk x y n ag hb hs hi hx hy hp hf,hr=>by
   simp only [Rep] at hr ⊢;obtain⟨id,h1,h2⟩:=hr;obtain⟨blk',g1,c,T,part,rest,g2,g3,g4⟩:=hc.heap b id h2;rw [hb] at g1;cases g1;have hz:=hc.frz b id blk h2 hb hf;obtain⟨ch,post,k1,k2,k3⟩:=idx_cells (off:=0) (by simpa using g3) g4 hi;obtain⟨pre,lL,lW,j1,j2,j3,j4,j5,j6,j7,j8⟩:=LV.at_spec x o n ag y ch hy k3 (by rw [k2,hs,hx]);refine⟨id,_,c,T,(0,0),lL,lW++post,h1,hz,g2,?_,by rw [j3,j6],Rep.repure (fun _ h=>h) (fun _ _=>rfl) _ _ hp j4,hp⟩;rw [cJ,hs] at k1;rw [<-je,k1,j1,<-j2];simp
 | _,_,_,@Imm.refI _ b sz off len blk l' hb hs hl hf h,hr=>by
   simp only [Rep] at hr ⊢;have xW:=ImmL.len h;have hlp:=(ImmL.lay h).2;rw [bZ,List.length_drop,eP J] at xW;rcases hr with⟨hr,rfl⟩ | ⟨id,cap,c,T,fz,h1,h2,h3,h4,h5⟩
   ·exact⟨none,0,0,hr,xW.symm,an _,.inl (List.length_eq_zero_iff.1 xW),hlp⟩
   obtain⟨blk',g1,c',T',part,rest,g2,g3,g4⟩:=hc.heap b id h2;rw [hb] at g1;cases g1;rw [h4] at g2;cases g2;refine⟨_,_,_,h1,xW.symm,h3,?_,hlp⟩;have hz:=hc.frz b id blk h2 hb hf;right;obtain⟨c1,c2,d1,d2,d3⟩:=RepAll.split (blk.vals.take off) (blk.vals.drop off) part rK;obtain⟨c3,c4,d4,d5,d6⟩:=RepAll.split ((blk.vals.drop off).take len) ((blk.vals.drop off).drop len) c2 (by rw [kK];exact d3);have en:=RepAll.length _ _ d2;rw [bZ,eP J,hs] at en;refine⟨id,off*sz,c,T,(0,0),c3,c4++rest,rfl,hz,h4,?_,?_⟩
   ·rw [g3,d1,d4,<-en];simp
   rw [hs] at d5;exact ImmL.soundA hc h d5
 | _,_,_,.agg h,hr=>by
   simp only [Rep] at hr ⊢;exact ImmL.sound hc h hr
theorem ImmL.sound (hc:Core W X Z0 μ Z H w):∀ {x y:List LV} {cs:List Value},ImmL H x y->RepFs Z μ w x cs->RepFs Z av w y cs
 | _,_,_,.nil,hr=>by simpa [RepFs] using hr
 | _,_,_,.cons h t,hr=>by
   simp only [RepFs] at hr ⊢;obtain⟨c1,c2,rfl,h2,h3,h4⟩:=hr;exact⟨c1,c2,rfl,by rw [h2,(Imm.lay h).2.1],Imm.sound hc h h3,ImmL.sound hc t h4⟩
theorem ImmL.soundA (hc:Core W X Z0 μ Z H w) {sz:Nat}:∀ {x y:List LV} {cs:List Value},ImmL H x y->RepAll Z μ w sz x cs->RepAll Z av w sz y cs
 | _,_,_,.nil,hr=>by simpa [RepAll] using hr
 | _,_,_,.cons h t,hr=>by
   simp only [RepAll] at hr ⊢;obtain⟨c1,c2,rfl,h2,h3,h4⟩:=hr;exact⟨c1,c2,rfl,h2,Imm.sound hc h h3,ImmL.soundA hc t h4⟩
end
mutual
theorem Imm.le (hle:H.le H'):∀ {x y:LV},Imm H x y->Imm H' x y
 | _,_,.pure h=>.pure h
 | _,_,.nil sz=>.nil sz
 | _,_,.ref hb hs hp hl hf=>by
   obtain⟨m,g1,g2,_⟩:=hle _ _ hb;exact Imm.ref (blk:=⟨_,_,m⟩) g1 hs hp hl (g2 hf)
 | _,_,.eptr hb hs hi hx hy hp hf=>by
   obtain⟨m,g1,g2,_⟩:=hle _ _ hb;exact Imm.eptr (blk:=⟨_,_,m⟩) g1 hs hi hx hy hp (g2 hf)
 | _,_,.refI hb hs hl hf h=>by
   obtain⟨m,g1,g2,_⟩:=hle _ _ hb;exact Imm.refI (blk:=⟨_,_,m⟩) g1 hs hl (g2 hf) (ImmL.le hle h)
 | _,_,.agg h=>.agg (ImmL.le hle h)
theorem ImmL.le (hle:H.le H'):∀ {x y:List LV},ImmL H x y->ImmL H' x y
 | _,_,.nil=>.nil
 | _,_,.cons h t=>.cons (Imm.le hle h) (ImmL.le hle t)
end
theorem Imm.ne {x y:LV} (h:Imm H x y):x≠.any/\∀ l,x≠.tup l:=by
 cases h with
 | pure h=>exact⟨LV.pure_ne_any h,LV.pure_ne_tup h⟩
 | _=>exact⟨by simp,by simp⟩
theorem Imm.soundV (hc:Core W X Z0 μ Z H w) {x y:LV} {v:Value} (h:Imm H x y) (hr:RepV Z μ w x v):RepV1 Z av w y v:=by
 have h1:=RepV.to1 h.ne.2 h.ne.1 hr;obtain⟨e1,_,_⟩:=h.lay;exact⟨fun e=>let ⟨cs,g1,g2⟩:=h1.1 (e1 ▸ e);⟨cs,g1,Imm.sound hc h g2⟩,fun e=>Imm.sound hc h (h1.2 (e1 ▸ e))⟩
end
end Go.Lg
end
