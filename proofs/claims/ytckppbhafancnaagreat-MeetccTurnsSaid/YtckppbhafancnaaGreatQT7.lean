/- Texts A6, A7, A8, A5, A9, U8, U9, U10, U11, U12, U13, U14, U15, U16, U17, U18, U20, J11, U21, U22, U23, U24, U25, J1, J2, J4 of this proof, joined. -/
import Derived.Test.YtckppbhafancnaaGreatQT6
set_option linter.unusedVariables false
set_option linter.unusedSimpArgs false
open And renaming intro->jN
open Bool renaming and_eq_true->kI,and_self->aaz,not_eq_true->aaG
open Decidable renaming byContradiction->aBr
open Go.Proofs.Tryz renaming func108->apD,func44->aji,func97->ayy,prog->an,underlying137->zQ,underlying148->aof,underlying165->wK,underlying169->ae5,underlying25->dI,underlying26->wB,underlying43->lI,underlying49->rf,underlying83->afT,underlying88->agC
open Int renaming le_refl->ag3,natAbs_add_le->ak7,natAbs_mul->acX,natAbs_natCast->agE,toNat_natCast->ab0,toNat_of_nonneg->yK
open List renaming append_nil->ng,drop_eq_getElem_cons->aaC,drop_length->aeo,drop_zero->mn,foldl->tW,getD_eq_getElem?_getD->bp,getElem?_drop->tc,getElem?_eq_getElem->b7,getElem?_map->g8,getElem?_replicate->adP,getElem_mem->qk,length_append->lT,length_drop->lg,length_map->dL,length_range->aqf,length_replicate->tT,length_take->eP,map->tF,map_append->abR,map_congr_left->rz,map_cons->nZ,map_map->kU,map_nil->yT,mem_append->o8,mem_append_left->asG,mem_append_right->ayi,mem_cons->fx,mem_map->cQ,mem_of_mem_drop->wg,mem_of_mem_take->wh,mem_range->qy,mem_replicate->sZ,mem_singleton->gS,not_mem_nil->jy,range->c9,replicate->ay,replicate_zero->acQ,set->vx,take_of_length_le->dg,take_succ_cons->yd,take_zero->abV
open Nat renaming add_assoc->p8,add_comm->qB,add_mul->iA,add_sub_cancel->mi,add_zero->mS,beq->oJ,beq_eq->yD,le_refl->bq,le_trans->ba,mul_assoc->fM,mul_comm->fA,mul_le_mul->mM,mul_le_mul_left->kv,mul_le_mul_right->fU,mul_one->jR,mul_pos->mG,pow_add->mg,pow_le_pow_left->axg,pow_le_pow_right->mh,pow_pos->my,pow_succ->jt,reduceBEq->wF,sub_self->qn,sub_zero->acA,zero_add->fF,zero_le->b8
open Option.some renaming injEq->fB
open Rat renaming add_mul->ax8,add_zero->kP,div_def->iV,div_mul_cancel->kf,intCast_add->abD,intCast_mul->sO,intCast_nonneg->z8,intCast_pos->sK,intCast_sub->afw,le_of_lt->ib,le_of_mul_le_mul_right->au6,le_refl->gf,le_total->adq,le_trans->gR,mul_assoc->wk,mul_comm->oW,mul_div_cancel->vO,mul_eq_zero->alZ,mul_le_mul_of_nonneg_left->u5,mul_le_mul_of_nonneg_right->pb,mul_nonneg->iN,mul_one->pI,mul_pos->aak,mul_zero->xi,neg_mul->auk,one_mul->ph,sub_eq_add_neg->af3,zero_add->ayq,zero_mul->vQ
section
set_option linter.unusedVariables false
set_option linter.unusedSimpArgs false
set_option maxHeartbeats 8000000
set_option maxRecDepth 100000
attribute [local irreducible] Go.Lg.opsL Go.Lg.cP Go.Lg.qi Go.Lg.s7
namespace Go.Proofs.YtckppbhafancnaaGreat
open Go.Lg
theorem spu (a b:Rat):aE (a,b)=.agg [ah a,ah b]:=by unfold aE;rfl
theorem avH {R:Nat} {s:Rat × Rat} (h:dC R s):dC R (fJ s):=⟨by show rl (-s.2)<=R;rw [ai3];exact h.2,by show rl (-s.1)<=R;rw [ai3];exact h.1⟩
theorem aD2 {R:Nat} {p q r s:Rat × Rat} (hp:dC R p) (hq:dC R q) (hr:dC R r) (hs:dC R s):dC (4*R+1) (wx p q r s):=(avx (afp hp hs) (afp hq hr)).le ae
theorem aD3 {P:Program} {H:bW} {ρ:Operand->LV} {T:TypeId} (hl:mo P T [(3,true),(3,true)]) (hz:dp P T (aE (0,0))):aF P H ρ (.build T #[]) (aE (0,0)):=by
 have e:[ah 0,ah 0].map lay=[(3,true),(3,true)]:=by simp [lay,ar.aw,ar.isAgg]
 rw [spu] at hz ⊢
 exact .build (zs:=[ah 0,ah 0]) (e ▸ hl) hz (by intro p hp;cases hp)
theorem ahh {P:Program} {H:bW} {ρ:Operand->LV} {T E:TypeId} {n:Nat} {ag:Bool} {o0 o1:Operand} {z v0 v1:LV} (hT:P.underlying T=some (.array 2 E)) (t:bE P E n ag) (hz:dp P T (.agg [z,z])) (zl:lay z=(n,ag)) (h0:ρ o0=v0) (h1:ρ o1=v1)
  (l0:lay v0=(n,ag)) (l1:lay v1=(n,ag)) (p0:v0.pure=true) (tu:v1.pure=true):aF P H ρ (.build T #[(0,o0),(1,o1)]) (.agg [v0,v1]):=by
 have:=aF.aaW (P:=P) (H:=H) (ρ:=ρ) (zs:=[z,z]) (ps:=#[(0,o0),(1,o1)]) hT t (by simp [zl]) hz (by
  intro p hp
  simp only [fx,jy,or_false] at hp
  rcases hp with rfl | rfl
  ·exact⟨_,rfl,by rw [h0,l0,zl],by rw [h0];exact LV.fp p0,by rw [h0];exact LV.eW p0⟩
  ·exact⟨_,rfl,by rw [h1,l1,zl],by rw [h1];exact LV.fp tu,by rw [h1];exact LV.eW tu⟩)
 simpa only [kh,tF,tW,vx,h0,h1] using this
theorem lz {p:Prop} (h:p:=by first | rfl | simp [lay,LV.aw,da,ud,ar.aw,ck.aw,ar.isAgg,ck.isAgg]):p:=h
open H0 in
theorem aoE (q:Rat) (h:rl q<=274877906944):ax an 189 [ah q] (ah (-q)):=by
 refine aW Tryz.func189 ?_
 refine bD ?_
 refine cp aR (ajW q ae) ?_
 refine bD ?_
 refine ez 8 rfl ?_ ?_<;>intro pZ h8
 ·refine aC ?_
  refine bS rfl (.ajd rfl rfl rfl T4 (by first | exact ahU pZ | exact aiG pZ)) ?_
  refine bD ?_
  exact gy
 ·refine aC ?_
  refine bS rfl (.ajd rfl rfl rfl T4 (by first | exact ahU pZ | exact aiG pZ)) ?_
  refine bD ?_
  exact gy
open iy in
theorem arZ (s:Rat × Rat) (R:Nat) (hR:R<=1000000000) (hs:dC R s):ax an 102 [aE s] (aE (fJ s)):=by
 obtain⟨a1,a2⟩:=hs
 refine aW Tryz.func102 ?_
 refine aZ ?_
 refine a9 7 aq ?_
 refine aT ?_
 refine cp aR (aoE s.2 ae) ?_
 refine aT ?_
 refine cp aR (aoE s.1 ae) ?_
 refine bc ?_
 exact uy
open iy in
theorem adG (s t:Rat × Rat) (R:Nat) (hR:R<=100000000000) (hs:dC R s) (ht:dC R t) (hm:lh s t=true):ax an 97 [aE s,aE t] (.bf [aE (eQ s.1 t.1,fb s.2 t.2),bL true]):=by
 obtain⟨a1,a2⟩:=hs
 obtain⟨y1,y2⟩:=ht
 have hle:=of_decide_eq_true hm
 have yG:rl (eQ s.1 t.1)<=R:=by unfold eQ;split<;>assumption
 have hz2:rl (fb s.2 t.2)<=R:=by unfold fb;split<;>assumption
 have hcm:¬gJ (eQ s.1 t.1) (fb s.2 t.2) > 0:=fun e=>by have:=vB.1 e;grind
 refine aW ayy (ht:=(kL (ck.pure _) rfl)) ?_
 refine bD ?_
 refine a9 12 aq ?_
 refine aA ?_
 refine cp au ((ais s.1 t.1 ae:ax an 168 [ah s.1,ah t.1] (ah (eQ s.1 t.1)))) ?_
 refine aA ?_
 refine cp au ((ajx s.2 t.2 ae:ax an 167 [ah s.2,ah t.2] (ah (fb s.2 t.2)))) ?_
 refine bG ?_
 refine cp au (n7 (eQ s.1 t.1) (fb s.2 t.2) ae) ?_
 refine aQ ?_
 refine ff (b:=_) rfl (decide_eq_false hcm) ?_
 refine bM ?_
 exact vW [] rfl rfl rfl (ck.aw _) (aaQ _) oA (.pure (ck.pure _)) rfl (.pure rfl)
open iy in
theorem amG (s t:Rat × Rat) (R:Nat) (hR:R<=100000000000) (hs:dC R s) (ht:dC R t) (hm:lh s t=false):ax an 97 [aE s,aE t] (.bf [aE (0,0),bL false]):=by
 obtain⟨a1,a2⟩:=hs
 obtain⟨y1,y2⟩:=ht
 have hle:=of_decide_eq_false hm
 have yG:rl (eQ s.1 t.1)<=R:=by unfold eQ;split<;>assumption
 have hz2:rl (fb s.2 t.2)<=R:=by unfold fb;split<;>assumption
 have hcm:gJ (eQ s.1 t.1) (fb s.2 t.2) > 0:=vB.2 cj
 refine aW ayy (ht:=(kL (ck.pure _) rfl)) ?_
 refine bD ?_
 refine a9 12 aq ?_
 refine aA ?_
 refine cp au ((ais s.1 t.1 ae:ax an 168 [ah s.1,ah t.1] (ah (eQ s.1 t.1)))) ?_
 refine aA ?_
 refine cp au ((ajx s.2 t.2 ae:ax an 167 [ah s.2,ah t.2] (ah (fb s.2 t.2)))) ?_
 refine bG ?_
 refine cp au (n7 (eQ s.1 t.1) (fb s.2 t.2) ae) ?_
 refine aQ ?_
 refine cu (b:=_) rfl (decide_eq_true hcm) ?_
 refine aT ?_
 refine ak rfl (aD3 apL abK) ?_
 refine aC ?_
 exact vW [] rfl rfl rfl (ck.aw _) (aaQ _) oA (.pure (ck.pure _)) rfl (.pure rfl)
namespace yV
theorem aO {p q:Prop} (k:q) (e:p=q:=by simp only [e1,e2,e3,e4,p1,p2,p3,q1,q2,q3,l1,t0,t1,r1,r2,r3,r4,Nat.zero_add,Nat.reduceMul,Nat.reduceAdd,b1,b2,b3,b4,b5,b6,i1,i2,i3,i4,i5,i6,Nat.reduceBEq,List.getD_cons_zero,List.getD_cons_succ,List.set_cons_zero,List.set_cons_succ,Nat.reduceEqDiff,reduceIte,if_true,if_false,eN,eY,aV bl,aV bF,aV ar,cU,eu,LV.kill,bX];exact rfl):p:=e.mpr k
end yV
open yV in
theorem aC6 (p q r s:Rat × Rat) (R:Nat) (hR:R<=100000000) (hp9:dC R p) (hq9:dC R q) (hr9:dC R r) (hs9:dC R s):ax an 101 [.agg [.agg [aE p,aE q],.agg [aE r,aE s]]] (aE (wx p q r s)):=by
 have m1:=afp hp9 hs9
 have m2:=afp hq9 hr9
 refine aW Tryz.func101 (ht:=(fun r=>LV.di r _ (ck.pure _))) ?_
 refine aZ ?_
 refine a9 15 aq ?_
 refine aC ?_
 refine cp au (aob p s R ae hp9 hs9) ?_
 refine aC ?_
 refine cp au (aob q r R ae hq9 hr9) ?_
 refine cp au (at3 (pR p s) (pR q r) (R+R) ae m1 m2) ?_
 refine aA ?_
 exact uy
open yV in
theorem aHR (a b:oP) (R:Nat) (hR:R<=100000000000) (ha:qh R a) (hb:qh R b) (iB:lh a.x b.x=true) (jY:lh a.y b.y=true) (fe:lh a.z b.z=true):ax an 44 [oc a,oc b] (bL true):=by
 obtain⟨a1,a2,a3⟩:=ha
 obtain⟨y1,y2,y3⟩:=hb
 refine aW aji ?_
 refine dM ?_
 refine bN ?_
 refine aC ?_
 refine cu (b:=_) rfl aj ?_
 refine bC ?_
 refine iC 11 [9] aq ?_
 refine aC ?_
 refine cp au (adG a.x b.x R hR a1 y1 iB) ?_
 refine dM ?_
 refine ff (b:=_) rfl (rfl) ?_
 refine aQ ?_
 refine cM (az.kill _ 6) ?_
 refine aA ?_
 refine bN ?_
 refine aC ?_
 refine cu (b:=_) rfl aj ?_
 refine bC ?_
 refine iC 11 [9] aq ?_
 refine aC ?_
 refine cp au (adG a.y b.y R hR a2 y2 jY) ?_
 refine dM ?_
 refine ff (b:=_) rfl (rfl) ?_
 refine aQ ?_
 refine cM (az.kill _ 6) ?_
 refine aA ?_
 refine bN ?_
 refine aC ?_
 refine cu (b:=_) rfl aj ?_
 refine bC ?_
 refine iC 11 [9] aq ?_
 refine aC ?_
 refine cp au (adG a.z b.z R hR a3 y3 fe) ?_
 refine dM ?_
 refine ff (b:=_) rfl (rfl) ?_
 refine aQ ?_
 refine cM (az.kill _ 6) ?_
 refine aA ?_
 refine bN ?_
 refine aC ?_
 refine ff (b:=_) rfl aj ?_
 refine bC ?_
 exact n6
open yV in
theorem aBq (a b:oP) (R:Nat) (hR:R<=100000000000) (ha:qh R a) (hb:qh R b) (iB:lh a.x b.x=true) (jY:lh a.y b.y=true) (fe:lh a.z b.z=false):ax an 44 [oc a,oc b] (bL false):=by
 obtain⟨a1,a2,a3⟩:=ha
 obtain⟨y1,y2,y3⟩:=hb
 refine aW aji ?_
 refine dM ?_
 refine bN ?_
 refine aC ?_
 refine cu (b:=_) rfl aj ?_
 refine bC ?_
 refine iC 11 [9] aq ?_
 refine aC ?_
 refine cp au (adG a.x b.x R hR a1 y1 iB) ?_
 refine dM ?_
 refine ff (b:=_) rfl (rfl) ?_
 refine aQ ?_
 refine cM (az.kill _ 6) ?_
 refine aA ?_
 refine bN ?_
 refine aC ?_
 refine cu (b:=_) rfl aj ?_
 refine bC ?_
 refine iC 11 [9] aq ?_
 refine aC ?_
 refine cp au (adG a.y b.y R hR a2 y2 jY) ?_
 refine dM ?_
 refine ff (b:=_) rfl (rfl) ?_
 refine aQ ?_
 refine cM (az.kill _ 6) ?_
 refine aA ?_
 refine bN ?_
 refine aC ?_
 refine cu (b:=_) rfl aj ?_
 refine bC ?_
 refine iC 11 [9] aq ?_
 refine aC ?_
 refine cp au (amG a.z b.z R hR a3 y3 fe) ?_
 refine dM ?_
 refine cu (b:=_) rfl (rfl) ?_
 refine bC ?_
 exact n6
open yV in
theorem aAS (a b:oP) (R:Nat) (hR:R<=100000000000) (ha:qh R a) (hb:qh R b) (iB:lh a.x b.x=true) (jY:lh a.y b.y=false):ax an 44 [oc a,oc b] (bL false):=by
 obtain⟨a1,a2,a3⟩:=ha
 obtain⟨y1,y2,y3⟩:=hb
 refine aW aji ?_
 refine dM ?_
 refine bN ?_
 refine aC ?_
 refine cu (b:=_) rfl aj ?_
 refine bC ?_
 refine iC 11 [9] aq ?_
 refine aC ?_
 refine cp au (adG a.x b.x R hR a1 y1 iB) ?_
 refine dM ?_
 refine ff (b:=_) rfl (rfl) ?_
 refine aQ ?_
 refine cM (az.kill _ 6) ?_
 refine aA ?_
 refine bN ?_
 refine aC ?_
 refine cu (b:=_) rfl aj ?_
 refine bC ?_
 refine iC 11 [9] aq ?_
 refine aC ?_
 refine cp au (amG a.y b.y R hR a2 y2 jY) ?_
 refine dM ?_
 refine cu (b:=_) rfl (rfl) ?_
 refine bC ?_
 exact n6
open yV in
theorem aJe (a b:oP) (R:Nat) (hR:R<=100000000000) (ha:qh R a) (hb:qh R b) (iB:lh a.x b.x=false):ax an 44 [oc a,oc b] (bL false):=by
 obtain⟨a1,a2,a3⟩:=ha
 obtain⟨y1,y2,y3⟩:=hb
 refine aW aji ?_
 refine dM ?_
 refine bN ?_
 refine aC ?_
 refine cu (b:=_) rfl aj ?_
 refine bC ?_
 refine iC 11 [9] aq ?_
 refine aC ?_
 refine cp au (amG a.x b.x R hR a1 y1 iB) ?_
 refine dM ?_
 refine cu (b:=_) rfl (rfl) ?_
 refine bC ?_
 exact n6
theorem aAC (a b:oP) (R:Nat) (hR:R<=100000000000) (ha:qh R a) (hb:qh R b):ax an 44 [oc a,oc b] (bL (meB a b)):=by
 unfold meB
 cases h0:lh a.x b.x with
 | false=>exact aJe a b R hR ha hb h0
 | true =>
  cases h1:lh a.y b.y with
  | false=>exact aAS a b R hR ha hb h0 h1
  | true =>
   cases h2:lh a.z b.z with
   | false=>exact aBq a b R hR ha hb h0 h1 h2
   | true=>exact aHR a b R hR ha hb h0 h1 h2
open iy in
theorem aIW (s:Rat × Rat) (h1:rl s.1<=200000000000) (h2:rl s.2<=200000000000):ax an 256 [aE s] (.bf [iL (if cW s.1=cW s.2 then cW s.1 else 0),bL (decide (cW s.1=cW s.2))]):=by
 refine aW Tryz.func256 (ht:=(kL rfl rfl)) ?_
 refine bo ?_
 refine a9 8 aq ?_
 refine aT ?_
 refine cp aR (yu _ ae) ?_
 refine aT ?_
 refine cp aR (yu _ ae) ?_
 refine bG ?_
 refine aH rfl ?_ ?_<;>intro qC lG
 ·refine bo ?_
  rw [if_neg lG,decide_eq_false lG]
  exact yI
 ·refine bM ?_
  have atW:cW s.1=cW s.2:=by simpa using lG
  rw [if_pos atW,decide_eq_true atW]
  exact yI
namespace avG
theorem aO {p q:Prop} (k:q) (e:p=q:=by simp only [e1,e2,e3,e4,p1,p2,p3,q1,q2,q3,l1,t0,t1,r1,r2,r3,r4,Nat.zero_add,Nat.reduceMul,Nat.reduceAdd,b1,b2,b3,b4,b5,b6,i1,i2,i3,i4,i5,i6,Nat.reduceBEq,gZ,iS,aV bl,List.length_map,nt,nm,jK,List.length_cons,List.length_nil,List.nil_append,List.map_nil,List.take_nil,List.append_nil,List.set_cons_zero,List.set_cons_succ,Nat.reduceEqDiff,reduceIte,if_true,if_false,eN,eY,aV bl,aV bF,aV ar,cU,eu,LV.kill,bX];exact rfl):p:=e.mpr k
end avG
open avG in
theorem axP (po:List aG) (h0:0<po.length) (hl:po.length<=1000):ax an 110 [.list 12 (po.map aY)] (.list 9 ((po.map (·.p)).map a5)):=by
 refine aW Tryz.func110 (ht:=(fun g=>LV.di g _ (fc bl _ _))) ?_
 have gZ:True:=trivial
 have iS:True:=trivial
 refine pU ?_
 refine lR (az.own (t:=3) 16 9 rfl rfl) ?_
 refine dV (fun(j:Nat) L=>(((((St.mk L.slot (hp [(16,⟨9,((po.map (·.p)).take j).map a5,true⟩)])).put (some 3) (.ref 16 9 0 j)).put (some 6) (.list 12 (po.map aY))).put (some 7) (ai po.length)).put (some 8) (ai j))) (fun j=>j<=po.length) (fun j=>po.length-j) 0 (b8 _) ?_
 rintro j L1 hj
 refine aC ?_
 refine aH rfl ?_ ?_<;>intro wQ h9
 ·have jr:j<po.length:=by omega
  have iS:(po.map (·.p)).take j++[(po.getD j default).p]=(po.map (·.p)).take (j+1):=acy (fun q:aG=>q.p) po jr
  have gZ:(((po.map (·.p)).take j).map a5).take j=((po.map (·.p)).take j).map a5:=dg bz
  refine jI ?_
  refine bS rfl (.iJ (d:=16) (news:=[a5 (po.getD j default).p]) rfl rfl rfl rfl bz (.inl rfl) aj wK wK Z40 ju cs B40 (.inl ⟨15,0,_,rfl,by decide,rfl,rfl,by simp,rfl,by simp [aN,bl.pure]⟩) bz bz aj) ?_
  refine aA ?_
  refine cM ((az.kill _ 5).trans (az.kill _ 15)) ?_
  refine ak rfl cV ?_
  refine aQ ?_
  exact y9
 ·obtain rfl:j=po.length:=by omega
  have hE:(po.map (·.p)).take po.length=(po.map (·.p)):=dg aM
  refine bG ?_
  simp only [hE]
  exact o4 [16] rfl rfl (fI bl rfl rfl aM)
namespace aq2
theorem aO {p q:Prop} (k:q) (e:p=q:=by simp only [e1,e2,e3,e4,p1,p2,p3,q1,q2,q3,l1,t0,t1,r1,r2,r3,r4,Nat.zero_add,Nat.reduceMul,Nat.reduceAdd,b1,b2,b3,b4,b5,b6,i1,i2,i3,i4,i5,i6,Nat.reduceBEq,cN,zx,egd,List.length_map,List.set_cons_zero,List.set_cons_succ,Nat.reduceEqDiff,reduceIte,if_true,if_false,eN,eY,aV bl,aV bF,aV ar,cU,eu,LV.kill,bX];exact rfl):p:=e.mpr k
end aq2
open aq2 in
theorem atC (p:V3) (l:List V3) (R:Nat) (hR:R<=90000000) (hpb:cJ R p) (h0:0<l.length) (hl9:l.length<=1000) (hl:∀ q∈l,cJ R q):ax an 257 [a5 p,.list 9 (l.map a5)] (aE (mz p l)):=by
 have nz:∀ q∈l,rl (b9 p q)<=10*R+10:=fun q hq=>by
  obtain⟨a1,a2,a3⟩:=hpb
  obtain⟨y1,y2,y3⟩:=hl q hq
  have e0:=df p.x q.x
  have e5:=df p.y q.y
  have e6:=df p.z q.z
  have e7:=lN (0+p.x*q.x) (p.y*q.y)
  have e8:=lN (0+p.x*q.x+p.y*q.y) (p.z*q.z)
  have e9:(0:Rat)+p.x*q.x=p.x*q.x:=by grind
  unfold b9
  rw [e9] at e7 e8 ⊢
  omega
 have hdR:∀ x∈l.map (b9 p),rl x<=10*R+10:=fun x hx=>by
  obtain⟨q,hq,rfl⟩:=cQ.1 hx
  exact nz q hq
 refine aW Tryz.func257 (ht:=(fun r=>LV.di r _ (ck.pure _))) ?_
 have zx:True:=trivial
 have egd:True:=trivial
 refine pa ?_
 refine dV (fun(i:Nat) L=>(((((((St.mk L.slot (hp [(2,⟨9,[a5 p],true⟩),(4,⟨6,[aE (0,0)],true⟩),(5,⟨6,[aE (ko (l.map (b9 p)) i)],true⟩)])).put (some 2) (.aD 2 9 0 0)).put (some 4) (.aD 4 6 0 0)).put (some 5) (.aD 5 6 0 0)).put (some 9) (.list 9 (l.map a5))).put (some 10) (ai l.length)).put (some 11) (ai i))) (fun i=>i<=l.length) (fun i=>l.length-i) 0 (b8 _) ?_
 rintro i L1 hi
 refine aC ?_
 refine aH rfl ?_ ?_<;>intro adI h12
 ·have dR:i<l.length:=by omega
  have hli:=hl (l.getD i default) (by rw [bp,b7 dR];exact qk dR)
  have hdi:=nz (l.getD i default) (by rw [bp,b7 dR];exact qk dR)
  have egd:(l.map (b9 p)).getD i 0=b9 p (l.getD i default):=by rw [bp,g8,b7 dR,bp,b7 dR];rfl
  have fu:=alJ (R:=10*R+10) ae hdR
  have hr3:=ajS (R:=10*R+10) ae fu i
  have zx:ko (l.map (b9 p)) (i+1)=ga (if i=0 then((l.map (b9 p)).getD i 0,(l.map (b9 p)).getD i 0) else ko (l.map (b9 p)) i) ((l.map (b9 p)).getD i 0,(l.map (b9 p)).getD i 0):=rfl
  rw [egd] at zx
  have hVD:=afj p (l.getD i default) R ae hpb hli
  refine qF ?_
  refine cp au (hVD) ?_
  refine cp aR (tD (b9 p (l.getD i default)) ae) ?_
  refine bC ?_
  refine aH rfl ?_ ?_<;>intro aa0 h21
  ·have qt:i=0:=by omega
   rw [if_pos qt] at zx
   refine bo ?_
   first | refine cp au (wv (ko (l.map (b9 p)) i) (b9 p (l.getD i default),b9 p (l.getD i default)) (by have:=hr3.1;show _+rl (b9 p (l.getD i default))<=_;omega) (by have:=hr3.2;show _+rl (b9 p (l.getD i default))<=_;omega)) ?_ | refine cp au (wv (b9 p (l.getD i default),b9 p (l.getD i default)) (b9 p (l.getD i default),b9 p (l.getD i default)) ah6 ah6) ?_
   refine aA ?_
   refine cM ((az.kill _ 7).trans (az.kill _ 8)) ?_
   refine ak rfl cV ?_
   refine aQ ?_
   exact l5
  ·have qt:¬ i=0:=by omega
   rw [if_neg qt] at zx
   refine bc ?_
   first | refine cp au (wv (ko (l.map (b9 p)) i) (b9 p (l.getD i default),b9 p (l.getD i default)) (by have:=hr3.1;show _+rl (b9 p (l.getD i default))<=_;omega) (by have:=hr3.2;show _+rl (b9 p (l.getD i default))<=_;omega)) ?_ | refine cp au (wv (b9 p (l.getD i default),b9 p (l.getD i default)) (b9 p (l.getD i default),b9 p (l.getD i default)) ah6 ah6) ?_
   refine aA ?_
   refine cM ((az.kill _ 7).trans (az.kill _ 8)) ?_
   refine ak rfl cV ?_
   refine aQ ?_
   exact l5
 ·obtain rfl:l.length=i:=by omega
  have hE9:ko (l.map (b9 p)) l.length=mz p l:=by unfold mz eF;rw [dL]
  refine bG ?_
  rw [<-hE9]
  exact uy
theorem aw0 {r:V3} {R:Nat} {l:List V3} (hr:cJ R r) (hl:∀ q∈l,cJ R q):dC (10*R+10) (mz r l):=by
 unfold mz
 refine ajt ae fun x hx=>?_
 obtain⟨q,hq,rfl⟩:=cQ.1 hx
 have:=acS hr (hl q hq)
 omega
theorem aFE {x y:Int} (h1:-1<=x/\x<=1) (h2:-1<=y/\y<=1):-1<=x*y/\x*y<=1:=by
 obtain⟨a,b⟩:=h1
 obtain⟨c,d⟩:=h2
 rcases(show x=-1\/x=0\/x=1 by omega) with rfl | rfl | rfl<;>rcases(show y=-1\/y=0\/y=1 by omega) with rfl | rfl | rfl<;>decide
theorem aDW (s t:Rat × Rat):uB s t=(decide (cW s.1=cW s.2) && (decide (cW t.1=cW t.2) && decide ((if cW s.1=cW s.2 then cW s.1 else 0)*(if cW t.1=cW t.2 then cW t.1 else 0)<0))):=by
 unfold uB
 by_cases h1:cW s.1=cW s.2
 ·by_cases h2:cW t.1=cW t.2
  ·rw [if_pos h1,if_pos h2,Bool.and_assoc]
  ·rw [decide_eq_false h2];simp
 ·rw [decide_eq_false h1];simp
theorem aJn (x:Rat):-1<=cW x/\cW x<=1:=by
 unfold cW
 split
 ·decide
 ·split<;>decide
theorem axa (s:Rat × Rat):-1<=(if cW s.1=cW s.2 then cW s.1 else 0)/\(if cW s.1=cW s.2 then cW s.1 else 0)<=1:=by
 split
 ·exact aJn _
 ·decide
open iy in
theorem arB (r:V3) (R:Nat) (hR:R<=90000000) (hr:cJ R r) (lp lq:List V3) (alH:0<lp.length) (aj7:lp.length<=1000) (hlp:∀ q∈lp,cJ R q) (akx:0<lq.length) (anK:lq.length<=1000) (mO:∀ q∈lq,cJ R q):ax an 202 [.agg [.list 9 (lp.map a5),.list 9 (lq.map a5)],a5 r] (.bf [iL (if cW (iK r lp lq).1=cW (iK r lp lq).2 then cW (iK r lp lq).1 else 0),bL (decide (cW (iK r lp lq).1=cW (iK r lp lq).2))]):=by
 have aHu:=atC r lp R hR hr alH aj7 hlp
 have awG:dC (10*R+10) (mz r lp):=aw0 hr hlp
 have aBv:=atC r lq R hR hr akx anK mO
 have awh:dC (10*R+10) (mz r lq):=aw0 hr mO
 have bsd:=avx awG awh
 obtain⟨bs1,bs2⟩:=bsd
 refine aW Tryz.func202 (ht:=(kL rfl rfl)) ?_
 refine bD ?_
 refine a9 14 aq ?_
 refine aQ ?_
 refine cp au (aHu) ?_
 refine aQ ?_
 refine cp au (aBv) ?_
 refine cp au (at3 (mz r lp) (mz r lq) (10*R+10) ae awG awh) ?_
 refine cp aR (aIW (iK r lp lq) (ba bs1 ae) (ba bs2 ae)) ?_
 refine aZ ?_
 exact yI
open iy in
theorem auT (r:V3) (R:Nat) (hR:R<=90000000) (hr:cJ R r) (lp lq lu lv:List V3) (alH:0<lp.length) (aj7:lp.length<=1000) (hlp:∀ q∈lp,cJ R q) (akx:0<lq.length) (anK:lq.length<=1000) (mO:∀ q∈lq,cJ R q) (az3:0<lu.length) (aGZ:lu.length<=1000) (gV:∀ q∈lu,cJ R q) (aCl:0<lv.length) (aAI:lv.length<=1000) (hlv:∀ q∈lv,cJ R q):ax an 112 [a5 r,.agg [.list 9 (lp.map a5),.list 9 (lq.map a5)],.agg [.list 9 (lu.map a5),.list 9 (lv.map a5)]] (bL (uB (iK r lp lq) (iK r lu lv))):=by
 have g1:=axa (iK r lp lq)
 have g2:=axa (iK r lu lv)
 have hm:=aFE g1 g2
 have hoe:=aDW (iK r lp lq) (iK r lu lv)
 have aLp:LV.pure (.agg [.list 9 (lp.map a5),.list 9 (lq.map a5)])=true:=by simp [LV.pure,aN,a7 bl]
 have aKJ:LV.pure (.agg [.list 9 (lu.map a5),.list 9 (lv.map a5)])=true:=by simp [LV.pure,aN,a7 bl]
 refine aW Tryz.func112 ?_
 refine bG ?_
 refine cp au (arB r R hR hr lp lq alH aj7 hlp akx anK mO) ?_
 refine bC ?_
 refine cp au (arB r R hR hr lu lv az3 aGZ gV aCl aAI hlv) ?_
 refine bC ?_
 refine ez 24 rfl ?_ ?_<;>intro tN xp
 ·refine aQ ?_
  refine ez 27 rfl ?_ ?_<;>intro zu h27
  ·refine aT ?_
   refine ak (aP (v:=true) rfl rfl (zu) rfl) (.bin rfl rfl (air ae ae)) ?_
   refine aC ?_
   rw [hoe,tN,zu]
   exact n6
  ·refine bD ?_
   rw [hoe,tN,zu]
   exact n6
 ·refine bG ?_
  rw [hoe,tN]
  exact n6
open iy in
theorem aps (q:aG) (R:Nat) (hR:R<=1000000) (h:sf R q):ax an 201 [aY q] (aY q):=by
 obtain⟨hp,hw,ni⟩:=h
 have uv:rl 0=1:=rfl
 have hA:=jJ q.w 0 ae
 rw [kP] at hA
 have hz:cJ 1 (⟨0,0,0⟩:V3):=⟨by decide,by decide,by decide⟩
 have hV:ax an 255 [a5 q.p,a5 ⟨0,0,0⟩] (a5 q.p):=by
  have:=aH4 q.p ⟨0,0,0⟩ (R+1) ae (hp.le ae) (hz.le ae)
  rwa [show lM q.p ⟨0,0,0⟩=q.p from by unfold lM;simp only [kP]] at this
 refine aW Tryz.func201 (ht:=(fun g=>LV.di g _ (bF.pure _))) ?_
 refine aZ ?_
 refine a9 9 aq ?_
 refine aT ?_
 refine rG aB8 ?_
 refine cp au (hV) ?_
 refine aT ?_
 refine ak rfl qY ?_
 refine cp au (hA) ?_
 refine rG (abb rfl rfl) ?_
 refine aA ?_
 exact iG [] rfl rfl rfl cs (dZ cs rfl) uF (.pure pu)
namespace an2
theorem aO {p q:Prop} (k:q) (e:p=q:=by simp only [e1,e2,e3,e4,p1,p2,p3,q1,q2,q3,l1,t0,t1,r1,r2,r3,r4,Nat.zero_add,Nat.reduceMul,Nat.reduceAdd,b1,b2,b3,b4,b5,b6,i1,i2,i3,i4,i5,i6,Nat.reduceBEq,List.length_map,List.set_cons_zero,List.set_cons_succ,Nat.reduceEqDiff,reduceIte,if_true,if_false,eN,eY,aV bl,aV bF,aV ar,cU,eu,LV.kill,bX];exact rfl):p:=e.mpr k
end an2
open an2 in
theorem aJJ (d:Nat) (kn:List Rat) (po:List aG) (R:Nat) (hR:R<=1000000) (h:ow po d R):ax an 111 [.agg [ai d,.list 3 (kn.map ah),.list 12 (po.map aY)]] (.bf [a5 (po.getD 0 default).p,a5 (po.getD (po.length-1) default).p]):=by
 have hl:=h.hl
 have h6:=h.h6
 have gh:LV.pure (.agg [ai d,.list 3 (kn.map ah),.list 12 (po.map aY)])=true:=by simp [LV.pure,aN,a7 ar,a7 bF]
 have wT:=aps (po.getD 0 default) R hR (h.ok _ (sJ ae))
 have hc2:=aps (po.getD (po.length-1) default) R hR (h.ok _ (sJ ae))
 refine aW Tryz.func111 (ht:=(kL (bl.pure _) (bl.pure _))) ?_
 refine oF ?_
 refine aH rfl ?_ ?_<;>intro h7r h7
 ·omega
 ·refine aQ ?_
  refine aBT rfl 16 2 [6,7,8,9,10,11,12,13,14,15] aq rfl ?_
  simp only [yd,abV,e1,e2,e3,e4,p1,p2,p3,q1,q2,q3,l1,t0,t1,r1,r2,r3,r4,fF,Nat.reduceMul,Nat.reduceAdd,b1,b2,b3,b4,b5,b6,i1,i2,i3,i4,i5,i6,wF,bh7,dh1,dh2,dh3]
  refine aA ?_
  refine cp aR (wT) ?_
  refine aC ?_
  refine ak rfl lK ?_
  refine aT ?_
  refine cp aR (hc2) ?_
  refine av ?_
  refine aIM rfl rfl (fun om h=>by cases h;exact⟨_,_,_,_,_,rfl,rfl⟩) ?_
  simp only [List.drop_succ_cons,mn]
  refine bc ?_
  exact ano [] rfl rfl rfl cs (dZ cs rfl) ju (.pure pu) rfl rfl cs (dZ cs rfl) ju (.pure pu)
structure M3 where
 a:V3
 b:V3
 c:V3
 t:V3
 deriving Inhabited
def eG (m:M3):LV:=.agg [.agg [a5 m.a,a5 m.b,a5 m.c],a5 m.t]
theorem dS:iZ eG 36 true:=⟨fun m=>by simp [eG,LV.aw,da,bl.aw],fun _=>rfl,fun m=>by simp [eG,LV.pure,aN,bl.pure]⟩
def m3t (m:M3) (p:V3):V3:=⟨b9 m.a p,b9 m.b p,b9 m.c p⟩
def m3p (m:M3) (p:V3):V3:=lM (m3t m p) m.t
def tL (m:M3) (q:aG):aG:=⟨m3p m q.p,q.w⟩
def tH (R:Nat) (m:M3):Prop:=cJ R m.a/\cJ R m.b/\cJ R m.c/\cJ R m.t
theorem awS {R S:Nat} {m:M3} {p:V3} (hm:tH R m) (hp:cJ S p):cJ (3*(R+S)+4) (m3t m p):=⟨acS hm.1 hp,acS hm.2.1 hp,acS hm.2.2.1 hp⟩
instance:EC an 68 eG 36 true ⟨⟨0,0,0⟩,⟨0,0,0⟩,⟨0,0,0⟩,⟨0,0,0⟩⟩:=⟨dS,Z68,wb⟩
theorem aiM (p:V3):(a5 p).at 0 9 true=some (a5 p):=dZ (bl.aw p) rfl
theorem agk (m:M3):(eG m).at 0 9 true=some (a5 m.a):=by
 simp [eG,LV.at,uR,LV.aw,da,bl.aw,aiM]
theorem afH (m:M3):(eG m).at 9 9 true=some (a5 m.b):=by
 simp [eG,LV.at,uR,LV.aw,da,bl.aw,aiM]
theorem aiQ (m:M3):(eG m).at 18 9 true=some (a5 m.c):=by
 simp [eG,LV.at,uR,LV.aw,da,bl.aw,aiM]
theorem aqI (m:M3):(eG m).at 27 9 true=some (a5 m.t):=by
 simp [eG,LV.at,uR,LV.aw,da,bl.aw,aiM]
theorem aea (m:M3) (b:Nat):(eG m).kill b=eG m:=LV.mr b _ (dS.pure m)
section
variable {P:Program} {H:bW} {ρ:Operand->LV} {T E:TypeId}
theorem alx {o0 o1 o2:Operand} {a b c:V3} [u:UN P T (.array 3 E)] [t:TI P E 9 true] [z:ZI P T (.agg [a5 ⟨0,0,0⟩,a5 ⟨0,0,0⟩,a5 ⟨0,0,0⟩])] (h0:ρ o0=a5 a) (h1:ρ o1=a5 b) (h2:ρ o2=a5 c) :
  aF P H ρ (.build T #[(0,o0),(1,o1),(2,o2)]) (.agg [a5 a,a5 b,a5 c]):=by
 have:=aF.zj (H:=H) (ρ:=ρ) (ps:=#[(0,o0),(1,o1),(2,o2)]) (u:=u) (t:=t) (z:=z) (by simp [lay,bl.aw,bl.isAgg]) (by
  intro p hp
  simp only [fx,jy,or_false] at hp
  rcases hp with rfl | rfl | rfl
  ·exact⟨_,rfl,by rw [h0];simp [lay,bl.aw,bl.isAgg],by rw [h0];exact LV.fp (bl.pure _),by rw [h0];exact LV.eW (bl.pure _)⟩
  ·exact⟨_,rfl,by rw [h1];simp [lay,bl.aw,bl.isAgg],by rw [h1];exact LV.fp (bl.pure _),by rw [h1];exact LV.eW (bl.pure _)⟩
  ·exact⟨_,rfl,by rw [h2];simp [lay,bl.aw,bl.isAgg],by rw [h2];exact LV.fp (bl.pure _),by rw [h2];exact LV.eW (bl.pure _)⟩)
 simpa only [kh,tF,tW,vx,h0,h1,h2] using this
end
instance:ZI an 66 (.agg [a5 ⟨0,0,0⟩,a5 ⟨0,0,0⟩,a5 ⟨0,0,0⟩]):=⟨Z66⟩
instance:ZI an 68 (.agg [.agg [a5 ⟨0,0,0⟩,a5 ⟨0,0,0⟩,a5 ⟨0,0,0⟩],a5 ⟨0,0,0⟩]):=⟨Z68⟩
instance:AE an 68 eG 36 true ⟨⟨0,0,0⟩,⟨0,0,0⟩,⟨0,0,0⟩,⟨0,0,0⟩⟩:=⟨dS,Z68⟩
open iy in
theorem aCp (p q r:V3) (R:Nat) (hR:R<=200000000) (hp:cJ R p) (hq:cJ R q) (hr:cJ R r):ax an 253 [a5 p,a5 q,a5 r] (ah (b9 p (ia q r))):=by
 have hx:=aaF hq hr
 refine aW Tryz.func253 ?_
 refine bD ?_
 refine a9 5 aq ?_
 refine aQ ?_
 refine cp au (aiu q r R ae hq hr) ?_
 refine cp au (afj p (ia q r) (4*R+5) ae (hp.le ae) hx) ?_
 refine aA ?_
 exact gy
namespace alM
theorem aO {p q:Prop} (k:q) (e:p=q:=by simp only [e1,e2,e3,e4,p1,p2,p3,q1,q2,q3,l1,t0,t1,r1,r2,r3,r4,Nat.zero_add,Nat.reduceMul,Nat.reduceAdd,b1,b2,b3,b4,b5,b6,i1,i2,i3,i4,i5,i6,Nat.reduceBEq,aea,List.set_cons_zero,List.set_cons_succ,Nat.reduceEqDiff,reduceIte,if_true,if_false,eN,eY,aV bl,aV bF,aV ar,cU,eu,LV.kill,bX];exact rfl):p:=e.mpr k
end alM
open alM in
theorem aub (m:M3) (R:Nat) (hR:R<=200000000) (hm:tH R m):ax an 197 [eG m] (ah (b9 m.a (ia m.b m.c))):=by
 obtain⟨jY,fe,qV,oH⟩:=hm
 refine aW Tryz.func197 ?_
 refine bM ?_
 refine ak rfl (.gj rfl rfl rfl rfl (dS.aw m) (agk m) ju) ?_
 refine aT ?_
 refine ak rfl (.gj rfl rfl rfl rfl (dS.aw m) (afH m) ju) ?_
 refine aT ?_
 refine ak rfl (.gj rfl rfl rfl rfl (dS.aw m) (aiQ m) ju) ?_
 refine cp ig (aCp m.a m.b m.c R hR jY fe qV) ?_
 refine aA ?_
 exact gy
def trM (a b c:V3):LV:=.agg [a5 a,a5 b,a5 c]
theorem amD (a b c:V3):(trM a b c).pure=true:=by simp only [trM,LV.pure,aN,bl.pure,aaz]
theorem aj6 (m:M3) (q:V3):(eG m).put 27 (a5 q)=some (eG ⟨m.a,m.b,m.c,q⟩):=by
 have hq:(a5 m.t).put 0 (a5 q)=some (a5 q):=ptp
 simp [eG,LV.put,zg,LV.aw,da,bl.aw,hq]
theorem aCE (m:M3):(eG m).at 0 27 true=some (.agg [a5 m.a,a5 m.b,a5 m.c]):=by
 simp [eG,LV.at,uR,LV.aw,da,bl.aw,ud]
open yV in
theorem aBN (a b c:V3) (R:Nat) (hR:R<=1000000000) (ha:cJ R a) (hb:cJ R b) (hc:cJ R c):ax an 199 [.agg [a5 a,a5 b,a5 c]] (.agg [a5 ⟨a.x,b.x,c.x⟩,a5 ⟨a.y,b.y,c.y⟩,a5 ⟨a.z,b.z,c.z⟩]):=by
 obtain⟨a1,a2,a3⟩:=ha
 obtain⟨y1,y2,y3⟩:=hb
 obtain⟨z1,z2,z3⟩:=hc
 have uv:rl 0=1:=rfl
 have yr:=jJ a.x 0 ae
 rw [kP] at yr
 have yh:=jJ a.y 0 ae
 rw [kP] at yh
 have yX:=jJ a.z 0 ae
 rw [kP] at yX
 have zA:=jJ b.x 0 ae
 rw [kP] at zA
 have yf:=jJ b.y 0 ae
 rw [kP] at yf
 have yk:=jJ b.z 0 ae
 rw [kP] at yk
 have yz:=jJ c.x 0 ae
 rw [kP] at yz
 have y6:=jJ c.y 0 ae
 rw [kP] at y6
 have zE:=jJ c.z 0 ae
 rw [kP] at zE
 refine aW Tryz.func199 (ht:=(fun g=>LV.di g _ (amD _ _ _))) ?_
 refine qF ?_
 refine bN ?_
 refine aC ?_
 refine cu (b:=_) rfl aj ?_
 refine oF ?_
 refine bN ?_
 refine aC ?_
 refine cu (b:=_) rfl aj ?_
 refine bM ?_
 refine a9 11 aq ?_
 refine bo ?_
 try refine aO ?_
 first | refine cp au yr ?_ | refine cp au yh ?_ | refine cp au yX ?_ | refine cp au zA ?_ | refine cp au yf ?_ | refine cp au yk ?_ | refine cp au yz ?_ | refine cp au y6 ?_ | refine cp au zE ?_
 refine bC ?_
 refine bN ?_
 refine aC ?_
 refine cu (b:=_) rfl aj ?_
 refine bM ?_
 refine a9 11 aq ?_
 refine bo ?_
 try refine aO ?_
 first | refine cp au yr ?_ | refine cp au yh ?_ | refine cp au yX ?_ | refine cp au zA ?_ | refine cp au yf ?_ | refine cp au yk ?_ | refine cp au yz ?_ | refine cp au y6 ?_ | refine cp au zE ?_
 refine bC ?_
 refine bN ?_
 refine aC ?_
 refine cu (b:=_) rfl aj ?_
 refine bM ?_
 refine a9 11 aq ?_
 refine bo ?_
 try refine aO ?_
 first | refine cp au yr ?_ | refine cp au yh ?_ | refine cp au yX ?_ | refine cp au zA ?_ | refine cp au yf ?_ | refine cp au yk ?_ | refine cp au yz ?_ | refine cp au y6 ?_ | refine cp au zE ?_
 refine bC ?_
 refine bN ?_
 refine aC ?_
 refine ff (b:=_) rfl aj ?_
 refine bC ?_
 refine bN ?_
 refine aC ?_
 refine cu (b:=_) rfl aj ?_
 refine oF ?_
 refine bN ?_
 refine aC ?_
 refine cu (b:=_) rfl aj ?_
 refine bM ?_
 refine a9 11 aq ?_
 refine bo ?_
 try refine aO ?_
 first | refine cp au yr ?_ | refine cp au yh ?_ | refine cp au yX ?_ | refine cp au zA ?_ | refine cp au yf ?_ | refine cp au yk ?_ | refine cp au yz ?_ | refine cp au y6 ?_ | refine cp au zE ?_
 refine bC ?_
 refine bN ?_
 refine aC ?_
 refine cu (b:=_) rfl aj ?_
 refine bM ?_
 refine a9 11 aq ?_
 refine bo ?_
 try refine aO ?_
 first | refine cp au yr ?_ | refine cp au yh ?_ | refine cp au yX ?_ | refine cp au zA ?_ | refine cp au yf ?_ | refine cp au yk ?_ | refine cp au yz ?_ | refine cp au y6 ?_ | refine cp au zE ?_
 refine bC ?_
 refine bN ?_
 refine aC ?_
 refine cu (b:=_) rfl aj ?_
 refine bM ?_
 refine a9 11 aq ?_
 refine bo ?_
 try refine aO ?_
 first | refine cp au yr ?_ | refine cp au yh ?_ | refine cp au yX ?_ | refine cp au zA ?_ | refine cp au yf ?_ | refine cp au yk ?_ | refine cp au yz ?_ | refine cp au y6 ?_ | refine cp au zE ?_
 refine bC ?_
 refine bN ?_
 refine aC ?_
 refine ff (b:=_) rfl aj ?_
 refine bC ?_
 refine bN ?_
 refine aC ?_
 refine cu (b:=_) rfl aj ?_
 refine oF ?_
 refine bN ?_
 refine aC ?_
 refine cu (b:=_) rfl aj ?_
 refine bM ?_
 refine a9 11 aq ?_
 refine bo ?_
 try refine aO ?_
 first | refine cp au yr ?_ | refine cp au yh ?_ | refine cp au yX ?_ | refine cp au zA ?_ | refine cp au yf ?_ | refine cp au yk ?_ | refine cp au yz ?_ | refine cp au y6 ?_ | refine cp au zE ?_
 refine bC ?_
 refine bN ?_
 refine aC ?_
 refine cu (b:=_) rfl aj ?_
 refine bM ?_
 refine a9 11 aq ?_
 refine bo ?_
 try refine aO ?_
 first | refine cp au yr ?_ | refine cp au yh ?_ | refine cp au yX ?_ | refine cp au zA ?_ | refine cp au yf ?_ | refine cp au yk ?_ | refine cp au yz ?_ | refine cp au y6 ?_ | refine cp au zE ?_
 refine bC ?_
 refine bN ?_
 refine aC ?_
 refine cu (b:=_) rfl aj ?_
 refine bM ?_
 refine a9 11 aq ?_
 refine bo ?_
 try refine aO ?_
 first | refine cp au yr ?_ | refine cp au yh ?_ | refine cp au yX ?_ | refine cp au zA ?_ | refine cp au yf ?_ | refine cp au yk ?_ | refine cp au yz ?_ | refine cp au y6 ?_ | refine cp au zE ?_
 refine bC ?_
 refine bN ?_
 refine aC ?_
 refine ff (b:=_) rfl aj ?_
 refine bC ?_
 refine bN ?_
 refine aC ?_
 refine ff (b:=_) rfl aj ?_
 refine bG ?_
 exact iG [] rfl rfl rfl cs (dZ cs rfl) T66 (.pure (amD ⟨a.x,b.x,c.x⟩ ⟨a.y,b.y,c.y⟩ ⟨a.z,b.z,c.z⟩))
namespace afY
theorem aO {p q:Prop} (k:q) (e:p=q:=by simp only [e1,e2,e3,e4,p1,p2,p3,q1,q2,q3,l1,t0,t1,r1,r2,r3,r4,Nat.zero_add,Nat.reduceMul,Nat.reduceAdd,b1,b2,b3,b4,b5,b6,i1,i2,i3,i4,i5,i6,Nat.reduceBEq,aea,List.getD_cons_zero,List.getD_cons_succ,List.set_cons_zero,List.set_cons_succ,Nat.reduceEqDiff,reduceIte,if_true,if_false,eN,eY,aV bl,aV bF,aV ar,cU,eu,LV.kill,bX];exact rfl):p:=e.mpr k
end afY
open afY in
theorem aFV (m:M3) (R:Nat) (hR:R<=1000000000) (hm:tH R m) (p:V3) (hpb:cJ R p):ax an 200 [eG m,a5 p] (a5 (m3t m p)):=by
 obtain⟨jY,fe,qV,oH⟩:=hm
 refine aW Tryz.func200 (ht:=(fun r=>LV.di r _ (bl.pure _))) ?_
 refine oF ?_
 refine ak rfl (.gj (r:=.agg [a5 m.a,a5 m.b,a5 m.c]) (n:=27) (ag:=true) rfl rfl rfl rfl (dS.aw m) (aCE m) T66) ?_
 refine aA ?_
 refine bN ?_
 refine aC ?_
 refine cu (b:=_) rfl aj ?_
 refine jI ?_
 refine cp au (afj m.a p R ae jY hpb) ?_
 refine bc ?_
 refine cM (az.kill _ 7) ?_
 refine aA ?_
 refine bN ?_
 refine aC ?_
 refine cu (b:=_) rfl aj ?_
 refine jI ?_
 refine cp au (afj m.b p R ae fe hpb) ?_
 refine bc ?_
 refine cM (az.kill _ 7) ?_
 refine aA ?_
 refine bN ?_
 refine aC ?_
 refine cu (b:=_) rfl aj ?_
 refine jI ?_
 refine cp au (afj m.c p R ae qV hpb) ?_
 refine bc ?_
 refine cM (az.kill _ 7) ?_
 refine aA ?_
 refine bN ?_
 refine aC ?_
 refine ff (b:=_) rfl aj ?_
 refine bG ?_
 exact tV
theorem amJ {P:Program} {H:bW} {ρ:Operand->LV} {T:TypeId} {o0:Operand} {a b c:V3} [z:ZI P T (.agg [.agg [a5 ⟨0,0,0⟩,a5 ⟨0,0,0⟩,a5 ⟨0,0,0⟩],a5 ⟨0,0,0⟩])] [s:SI P T [(27,true),(9,true)]] (h0:ρ o0=.agg [a5 a,a5 b,a5 c]) :
  aF P H ρ (.build T #[(0,o0)]) (eG ⟨a,b,c,⟨0,0,0⟩⟩):=by
 have hp:LV.pure (.agg [a5 a,a5 b,a5 c])=true:=by simp [LV.pure,aN,bl.pure]
 have:=aF.bd (H:=H) (ρ:=ρ) (ps:=#[(0,o0)]) (z:=z) (s:=s) (by simp [lay,LV.aw,da,bl.aw,bl.isAgg,ud]) (by
  intro q hq
  simp only [fx,jy,or_false] at hq
  rcases hq with rfl
  exact⟨_,rfl,by rw [h0];simp [lay,bl.aw,LV.aw,da,ud],by rw [h0];exact LV.fp hp,by rw [h0];exact LV.eW hp⟩)
 simp only [kh,tF,tW,vx,h0] at this
 exact this
def ivM (m:M3):M3:=⟨oE m.a m.b m.c,oK m.a m.b m.c,v5 m.a m.b m.c,jC (-1) (m3t ⟨oE m.a m.b m.c,oK m.a m.b m.c,v5 m.a m.b m.c,⟨0,0,0⟩⟩ m.t)⟩
open afY in
theorem aIZ (m:M3) (R:Nat) (hR:R<=40000000) (hm:tH R m) (hv:b9 m.a (ia m.b m.c)≠0):ax an 108 [eG m] (.bf [eG (ivM m),iL 0]):=by
 have iB:=hm
 obtain⟨jY,fe,qV,oH⟩:=hm
 have iO:=aaF fe qV
 have fh:=aaF qV jY
 have pK:=aaF jY fe
 have hV:=aub m R ae iB
 have fu:rl 1=1:=rfl
 have hrv:=acS jY iO
 have hrf:rl (gX m.a m.b m.c)<=20*R+30:=by
  have:=tA 1 (b9 m.a (ia m.b m.c))
  unfold gX
  omega
 have hQ:ax an 169 [ah 1,ah (b9 m.a (ia m.b m.c))] (.bf [ah (gX m.a m.b m.c),iL 0]):=by
  have:=wY 1 (b9 m.a (ia m.b m.c)) ae
  rwa [if_neg hv] at this
 have uW:ax an 107 [iL 1] (ah 1):=xx 1 aj aj
 have h1m:ax an 107 [iL (-1)] (ah (-1)):=by
  have:=xx (-1) aj aj
  rwa [show (((-1:Int)):Rat)=-1 from by decide +kernel] at this
 have pF:∀ q:V3,cJ (4*R+5) q->cJ (24*R+40) (jC (gX m.a m.b m.c) q):=fun q ⟨oL,tG,q3'⟩=>by
  have e1x:=df (gX m.a m.b m.c) q.x
  have e2x:=df (gX m.a m.b m.c) q.y
  have e3x:=df (gX m.a m.b m.c) q.z
  exact⟨by show rl ((gX m.a m.b m.c)*q.x)<=_;omega,by show rl ((gX m.a m.b m.c)*q.y)<=_;omega,by show rl ((gX m.a m.b m.c)*q.z)<=_;omega⟩
 have hT:=aBN (jC (gX m.a m.b m.c) (ia m.b m.c)) (jC (gX m.a m.b m.c) (ia m.c m.a)) (jC (gX m.a m.b m.c) (ia m.a m.b)) (24*R+40) ae (pF _ iO) (pF _ fh) (pF _ pK)
 have aA1:cJ (24*R+40) (oE m.a m.b m.c):=⟨(pF _ iO).1,(pF _ fh).1,(pF _ pK).1⟩
 have aGA:cJ (24*R+40) (oK m.a m.b m.c):=⟨(pF _ iO).2.1,(pF _ fh).2.1,(pF _ pK).2.1⟩
 have aBY:cJ (24*R+40) (v5 m.a m.b m.c):=⟨(pF _ iO).2.2,(pF _ fh).2.2,(pF _ pK).2.2⟩
 have yg:tH (24*R+40) ⟨oE m.a m.b m.c,oK m.a m.b m.c,v5 m.a m.b m.c,⟨0,0,0⟩⟩:=⟨aA1,aGA,aBY,⟨by show rl 0<=_;have:rl 0=1:=rfl;omega,by show rl 0<=_;have:rl 0=1:=rfl;omega,by show rl 0<=_;have:rl 0=1:=rfl;omega⟩⟩
 have hTu:=aFV ⟨oE m.a m.b m.c,oK m.a m.b m.c,v5 m.a m.b m.c,⟨0,0,0⟩⟩ (24*R+40) ae yg m.t (oH.le ae)
 have hbt:=awS yg oH
 have hSc:=aeU (-1) (m3t ⟨oE m.a m.b m.c,oK m.a m.b m.c,v5 m.a m.b m.c,⟨0,0,0⟩⟩ m.t) (3*(24*R+40+R)+4) ae (by have:rl (-1)=1:=aq;omega) hbt
 refine aW apD (ht:=(kL (dS.pure _) rfl)) ?_
 refine bo ?_
 refine iC 8 [6] aq ?_
 refine cp aR (uW) ?_
 refine ak rfl ain ?_
 refine fG rfl (.cons (.pure (dS.pure m)) .nil) hV ?_
 refine cp au (hQ) ?_
 refine iE ?_
 refine ff (b:=_) rfl (rfl) ?_
 refine aQ ?_
 refine a9 23 aq ?_
 refine aT ?_
 refine ak rfl (.gj rfl rfl rfl rfl (dS.aw m) (afH m) ju) ?_
 refine aT ?_
 refine ak rfl (.gj rfl rfl rfl rfl (dS.aw m) (aiQ m) ju) ?_
 refine cp au (aiu m.b m.c R ae fe qV) ?_
 refine aT ?_
 refine ak rfl (.gj rfl rfl rfl rfl (dS.aw m) (aiQ m) ju) ?_
 refine aT ?_
 refine ak rfl (.gj rfl rfl rfl rfl (dS.aw m) (agk m) ju) ?_
 refine cp au (aiu m.c m.a R ae qV jY) ?_
 refine aT ?_
 refine ak rfl (.gj rfl rfl rfl rfl (dS.aw m) (agk m) ju) ?_
 refine aT ?_
 refine ak rfl (.gj rfl rfl rfl rfl (dS.aw m) (afH m) ju) ?_
 refine cp au (aiu m.a m.b R ae jY fe) ?_
 refine ak rfl (alx rfl rfl rfl) ?_
 refine bG ?_
 refine bN ?_
 refine aC ?_
 refine cu (b:=_) rfl aj ?_
 refine jI ?_
 refine cp au (aeU (gX m.a m.b m.c) (ia m.b m.c) (20*R+30) ae hrf (iO.le ae)) ?_
 refine bc ?_
 refine cM (az.kill _ 8) ?_
 refine aA ?_
 refine bN ?_
 refine aC ?_
 refine cu (b:=_) rfl aj ?_
 refine jI ?_
 refine cp au (aeU (gX m.a m.b m.c) (ia m.c m.a) (20*R+30) ae hrf (fh.le ae)) ?_
 refine bc ?_
 refine cM (az.kill _ 8) ?_
 refine aA ?_
 refine bN ?_
 refine aC ?_
 refine cu (b:=_) rfl aj ?_
 refine jI ?_
 refine cp au (aeU (gX m.a m.b m.c) (ia m.a m.b) (20*R+30) ae hrf (pK.le ae)) ?_
 refine bc ?_
 refine cM (az.kill _ 8) ?_
 refine aA ?_
 refine bN ?_
 refine aC ?_
 refine ff (b:=_) rfl aj ?_
 refine bo ?_
 refine fG rfl (.cons (.pure (amD (jC (gX m.a m.b m.c) (ia m.b m.c)) (jC (gX m.a m.b m.c) (ia m.c m.a)) (jC (gX m.a m.b m.c) (ia m.a m.b)))) .nil) hT ?_
 refine ak rfl (amJ (a:=oE m.a m.b m.c) (b:=oK m.a m.b m.c) (c:=v5 m.a m.b m.c) rfl) ?_
 refine av ?_
 refine bS rfl (.stE (e:=eG) (l:=[⟨⟨0,0,0⟩,⟨0,0,0⟩,⟨0,0,0⟩,⟨0,0,0⟩⟩]) (a:=⟨oE m.a m.b m.c,oK m.a m.b m.c,v5 m.a m.b m.c,⟨0,0,0⟩⟩) rfl rfl rfl aM) ?_
 refine aQ ?_
 refine a9 7 aq ?_
 refine cp aR (h1m) ?_
 refine ak rfl (.gj rfl rfl rfl rfl (dS.aw (⟨oE m.a m.b m.c,oK m.a m.b m.c,v5 m.a m.b m.c,⟨0,0,0⟩⟩)) (dZ (dS.aw (⟨oE m.a m.b m.c,oK m.a m.b m.c,v5 m.a m.b m.c,⟨0,0,0⟩⟩)) rfl) wb) ?_
 refine av ?_
 refine ak rfl (.gj rfl rfl rfl rfl (dS.aw m) (aqI m) ju) ?_
 refine fG rfl (.cons (.pure (dS.pure _)) (.cons (.pure (bl.pure _)) .nil)) hTu ?_
 refine cp au (hSc) ?_
 refine av ?_
 refine bS rfl (.store (y:=eG ⟨oE m.a m.b m.c,oK m.a m.b m.c,v5 m.a m.b m.c,⟨0,0,0⟩⟩) (y':=eG (ivM m)) rfl rfl rfl rfl rfl (dS.aw _) (aj6 ⟨oE m.a m.b m.c,oK m.a m.b m.c,v5 m.a m.b m.c,⟨0,0,0⟩⟩ _) (by show bE _ _ (LV.aw (a5 _)) (LV.isAgg (a5 _));rw [bl.aw,bl.isAgg];exact ju) ⟨LV.fp (bl.pure _),LV.eW (bl.pure _)⟩) ?_
 refine aA ?_
 refine ak rfl (.gj rfl rfl rfl rfl (dS.aw (ivM m)) (dZ (dS.aw (ivM m)) rfl) wb) ?_
 refine bS rfl (.stE (e:=eG) (l:=[⟨⟨0,0,0⟩,⟨0,0,0⟩,⟨0,0,0⟩,⟨0,0,0⟩⟩]) (a:=ivM m) rfl rfl rfl aM) ?_
 refine aA ?_
 exact vW [] rfl rfl rfl (dS.aw _) (dZ (dS.aw _) rfl) wb (.pure (dS.pure _)) rfl (.pure rfl)
theorem aEJ {P:Program} {H:bW} {ρ:Operand->LV} {T E:TypeId} {o2:Operand} {a:Rat} [u:UN P T (.array 3 E)] [t:TI P E 3 true] [z:ZI P T (.agg [ah 0,ah 0,ah 0])] (h0:ρ o2=ah a):aF P H ρ (.build T #[(2,o2)]) (a5 ⟨0,0,a⟩):=by
 have:=aF.zj (H:=H) (ρ:=ρ) (ps:=#[(2,o2)]) (u:=u) (t:=t) (z:=z) (by simp [lay,ar.aw,ar.isAgg]) (by
  intro q hq
  simp only [fx,jy,or_false] at hq
  subst hq
  exact⟨_,rfl,by rw [h0];simp [lay,ar.aw,ar.isAgg],by rw [h0];exact LV.fp (ar.pure _),by rw [h0];exact LV.eW (ar.pure _)⟩)
 simp only [kh,tF,tW,vx,h0] at this
 exact this
theorem aHe {s:Sp} (h:s.1<s.2):s.1<=kX s/\kX s<=s.2:=by
 have e:(s.1+s.2)/2*2=s.1+s.2:=kf aj
 unfold kX
 constructor<;>grind
open iy in
theorem aaV (p:V3):ax an 109 [a5 p] (.list 9 ([p].map a5)):=by
 refine aW Tryz.func109 (ht:=(fun g=>LV.di g _ (fc bl _ _))) ?_
 refine dM ?_
 exact o4 [4] rfl rfl (fI (l:=[p]) bl rfl rfl rfl)
def lQ (u v:V3):M3:=⟨mV u v,mR u v,mF,⟨0,0,0⟩⟩
section
variable {D W na:Nat} {lk:ky} {x:fN} {st:List fN} {m:Nat} {cl:List ij}
theorem aeb:ie D (x :: st)=vh D x+ie D st:=by simp [ie]
theorem amb (hk:¬D<=x.2.1):ie D (qg x :: qL x :: st)<ie D (x :: st):=by
 have:=au1 (x:=x) (s:=rT (x.1.getD (gQ x) default)) (s':=sP (x.1.getD (gQ x) default)) (show x.2.1<D by omega)
 rw [aeb,aeb,aeb]
 unfold qg qL
 omega
theorem aqd:∀ st:List fN,st.length<=ie D st
 | []=>b8 _
 | x :: st=>by
   have h1:=aqd st
   have h2:=afL D x
   rw [aeb,List.length_cons];omega
end
theorem aA5 (x:fN) (st jk:List fN):(x :: st).reverse++jk=st.reverse++(x :: jk):=by simp
theorem aHA (x:fN) (st jk:List fN):(st.reverse.map ll++(ll x :: jk.map ll))[st.length]?=some (ll x):=by
 rw [List.getElem?_append_right aM];simp
theorem azB (l m:List fN):(l++m).map ll=l.map ll++m.map ll:=abR
theorem aAA (l m:List ij):(l++m).map fy=l.map fy++m.map fy:=abR
theorem aJU (st:List fN) (l:List LV):(st.reverse.map ll++l).take st.length=st.reverse.map ll:=by
 rw [List.take_append_of_le_length aM,dg aM]
theorem aA7 {P:Program} {L:St} {blk' b0:bg} {bs:List bg} {l:List (Nat × bg)} {v:List LV} (hl:L.heap=hp l) (h0:hp l 0=some b0) (hb:blk'=⟨b0.sz,dA (sC [1]) b0.vals,b0.mt⟩) (abP:∀ c∈l.map (·.1),c≠0->c∈[1])
  (h1:hp l 1=some ⟨4,v,true⟩) (hv:aN v=true) (sB:bs=[⟨4,v,true⟩]):ak8 P [] L (.bf []) blk' bs:=by
 have hdm:∀ (l:List (Nat × bg)) (c:Nat),hp l c≠none->c∈l.map (·.1):=fun l=>by
  induction l with
  | nil=>exact fun c h=>absurd rfl h
  | cons p t ih =>
   obtain⟨d,y⟩:=p
   intro c h
   by_cases e:c=d
   ·simp [e]
   ·have:oJ c d=false:=by rw [<-aaG,yD];exact e
    simp only [hp,this,cond_false] at h
    simp only [nZ,fx]
    exact .inr (ih c h)
 refine⟨[],[1],b0,by rw [hl];exact h0,hb,.nil,by simp,by simp,by simp,fun c hc hh=>abP c (hdm l c (by rwa [hl] at hh)) hc,fun k b hk=>?_,rfl⟩
 match k,hk with
 | 0,hk =>
  simp only [List.getElem?_cons_zero,fB] at hk
  subst hk
  exact⟨_,by rw [hl];exact h1,by rw [sB,oI _ _ hv];rfl⟩
 | k+1,hk=>simp at hk
end Go.Proofs.YtckppbhafancnaaGreat
namespace Go.Lg
theorem az.aCm {L:St} (b:Nat) (bs:List Nat) (h0:bs.contains 0=false) {sz:Nat} {x y:LV} {mt:Bool} (hb:(L.cd bs).heap b=some ⟨sz,[x],mt⟩) (hi:cY (L.cd bs).heap x y):az L ((L.cd bs).bO b (some ⟨sz,[y],mt⟩)):=by
 rintro n W X Z0 a w ⟨ey,bI,μ,Z,wH,hr⟩
 obtain⟨Z',hc,hz⟩:=wH.xW (tb bs h0)
 refine⟨ey,bI,μ,Z',?_,fun s=>bh.mono hz (fun _ _ h=>h) (Frame.refl Z μ w) (hr s)⟩
 have hs:∀ c,((L.cd bs).bO b (some ⟨sz,[y],mt⟩)).heap c=if c=b then some ⟨sz,[y],mt⟩ else(L.cd bs).heap c:=fun c=>rfl
 refine⟨hc.cE,hc.mc,hc.jS,hc.me,hc.inj,hc.own,hc.x0,hc.oZ,hc.x1,fun c id blk g1 g2=>?_,fun c id blk g1 g2=>?_,fun c id g1=>?_⟩
 ·rw [hs] at g2
  split at g2
  ·rename_i e;subst e;cases g2;exact hc.jD c id ⟨sz,[x],mt⟩ g1 hb
  ·exact hc.jD c id blk g1 g2
 ·rw [hs] at g2
  split at g2
  ·rename_i e;subst e;cases g2;exact hc.cd c id ⟨sz,[x],mt⟩ g1 hb
  ·exact hc.cd c id blk g1 g2
 ·obtain⟨blk,k1,k2⟩:=hc.heap c id g1
  rw [hs]
  by_cases e:c=b
  ·subst e
   rw [if_pos rfl]
   rw [hb] at k1
   cases k1
   refine⟨_,rfl,?_⟩
   obtain⟨cs,T,part,rest,e1,e2,e3⟩:=k2
   refine⟨cs,T,part,rest,e1,e2,?_⟩
   simp only [aS] at e3 ⊢
   obtain⟨c1,c2,q1,q2,q3,q4⟩:=e3
   exact⟨c1,c2,q1,q2,cY.sound (bm:=μ) hc hi q3,q4⟩
  ·rw [if_neg e];exact⟨blk,k1,k2⟩
end Go.Lg
namespace Go.Proofs.YtckppbhafancnaaGreat
open Go.Lg
theorem aax {P:Program} {ρ:Operand->LV} {T E:TypeId} {x:Operand} {d sz:Nat} {ag:Bool} {z v:LV} (hT:P.underlying T=some (.slice E)) (hz:dp P E z) (hzc:z.aw=sz) (zk:z.isAgg=ag) (hE:bE P E sz ag)
  (hx:ρ x=v) (hvc:v.aw=sz) (hva:v.isAgg=ag) (hvp:v.pure=true) (hs:0<sz) (gU:sz<=1000):dE P ρ d (.buildSlice T 1 #[(0,x)]) (.ref d sz 0 1) ⟨sz,[v],true⟩:=by
 have:=dE.lit (P:=P) (ρ:=ρ) (d:=d) (T:=T) (n:=1) (ps:=#[(0,x)]) hT hz (by rw [zk];exact hE) hzc ae ae ae (by
  intro p hp
  simp only [gS] at hp
  subst hp
  refine⟨by simp,?_,by rw [hx];exact LV.fp hvp,by rw [hx];exact LV.eW hvp⟩
  simp [lay,hx,hvc,hva,hzc,zk])
 simpa [kh,hx,ay] using this
theorem aBk {P:Program} {ρ:Operand->LV} {T E:TypeId} {x:Operand} {d sz:Nat} {ag:Bool} {z v:LV} (hT:P.underlying T=some (.slice E)) (hz:dp P E z) (hzc:z.aw=sz) (zk:z.isAgg=ag) (hE:bE P E sz ag)
  (hx:ρ x=v) (hvc:v.aw=sz) (hva:v.isAgg=ag) (h1:v≠.any) (h2:∀ l,v≠.bf l) (hs:0<sz) (gU:sz<=1000):dE P ρ d (.buildSlice T 1 #[(0,x)]) (.ref d sz 0 1) ⟨sz,[v],true⟩:=by
 have:=dE.lit (P:=P) (ρ:=ρ) (d:=d) (T:=T) (n:=1) (ps:=#[(0,x)]) hT hz (by rw [zk];exact hE) hzc ae ae ae (by
  intro p hp
  simp only [gS] at hp
  subst hp
  refine⟨by simp,?_,by rw [hx];exact h1,by rw [hx];exact h2⟩
  simp [lay,hx,hvc,hva,hzc,zk])
 simpa [kh,hx,ay] using this
def cO (q:aG):Q4:=⟨q.w*q.p.x,q.w*q.p.y,q.w*q.p.z,q.w⟩
theorem aIP (d:Nat) (a b t:Rat):gM (bu d a b) t (bu d a b).length=(if a=t then d+1 else 0)+(if b=t then d+1 else 0):=by
 have h:=agN (ay (d+1) a) (ay (d+1) b) t (d+1)
 rw [tT] at h
 have e:(bu d a b).length=d+1+(d+1):=by rw [lL];omega
 rw [e]
 show gM (ay (d+1) a++_) t _=_
 rw [h,afM _ _ _ _ (bq _),afM _ _ _ _ (bq _)]
theorem azy {d:Nat} {a b:Rat} (h1:1<=d) (h6:d<=6) (cL:a<b) (hT:rl a<=64) (hT1:rl b<=64):kOK (bu d a b) d:=by
 have hl:=lL d a b
 have aX:a≠b:=by grind
 have e0:(bu d a b).getD 0 0=a:=by rw [iH _ _ _ _ ae,if_pos ae]
 have e1:(bu d a b).getD ((bu d a b).length-1) 0=b:=by rw [hl,iH _ _ _ _ ae,if_neg ae]
 have hm:∀ x∈bu d a b,x=a\/x=b:=fun x hx=>by
  rcases o8.1 hx with h | h
  ·exact .inl (sZ.1 h).2
  ·exact .inr (sZ.1 h).2
 refine⟨h1,h6,ae,ae,fun i hi=>?_,by rw [e0,e1];exact aX,fun t ht he=>?_,fun t ht g0 g1=>?_,fun x hx=>?_⟩
 ·rw [iH _ _ _ _ ae,iH _ _ _ _ ae]
  split<;>split
  ·exact gf
  ·grind
  ·omega
  ·exact gf
 ·rw [aIP]
  rcases hm t ht with rfl | rfl
  ·rw [if_pos rfl,if_neg (fun e=>aX e.symm)]
  ·rw [if_neg aX,if_pos rfl,fF]
 ·rw [e0] at g0;rw [e1] at g1
  rcases hm t ht with h | h
  ·exact absurd h g0
  ·exact absurd h g1
 ·rcases hm x hx with rfl | rfl<;>assumption
theorem arE {d:Nat} {a b:Rat}:∀ i,i+1<=d+1->dk (bu d a b) (i+1)=[a]
 | 0,_=>by rw [dk,if_pos (.inl rfl),aaS];rfl
 | i+1,h=>by
  rw [adJ ae (by rw [iH _ _ _ _ ae,iH _ _ _ _ ae,if_pos ae,if_pos ae]),arE i ae]
theorem axE {d:Nat} {a b:Rat} (cL:a<b):∀ i,i+1<=d+1->dk (bu d a b) (d+1+(i+1))=[a,b]
 | 0,_=>by
  rw [<-p8,ajI ae (by rw [iH _ _ _ _ ae,iH _ _ _ _ ae,if_neg ae,if_pos ae];grind),mS,arE d ae,iH _ _ _ _ ae,if_neg ae];rfl
 | i+1,h=>by
  rw [<-p8,adJ ae (by rw [iH _ _ _ _ ae,iH _ _ _ _ ae,if_neg ae,if_neg ae]),axE cL i ae]
theorem aJZ {d:Nat} {a b:Rat} (cL:a<b):dk (bu d a b) (bu d a b).length=[a,b]:=by
 have:=axE (d:=d) cL d (bq _)
 rwa [show d+1+(d+1)=(bu d a b).length by rw [lL];omega] at this
namespace ayv
theorem aO {p q:Prop} (k:q) (e:p=q:=by simp only [e1,e2,e3,e4,p1,p2,p3,q1,q2,q3,l1,t0,t1,r1,r2,r3,r4,Nat.zero_add,Nat.reduceMul,Nat.reduceAdd,b1,b2,b3,b4,b5,b6,i1,i2,i3,i4,i5,i6,Nat.reduceBEq,hl,List.length_map,List.set_cons_zero,List.set_cons_succ,Nat.reduceEqDiff,reduceIte,if_true,if_false,eN,eY,aV bl,aV bF,aV ar,cU,eu,LV.kill,bX];exact rfl):p:=e.mpr k
end ayv
open ayv in
theorem atf (d:Nat) (k:List Rat) (po:List aG) (hk:kOK k d) (hl:po.length=k.length-d-1):ax an 82 [.agg [ai d,.list 3 (k.map ah),.list 12 (po.map aY)]] (bL true):=by
 have gh:LV.pure (.agg [ai d,.list 3 (k.map ah),.list 12 (po.map aY)])=true:=by simp [LV.pure,aN,a7 ar,a7 bF]
 have h9:=hk.d6
 have hm:=hk.max
 have hn:=hk.len
 have hKp:ax an 152 [.list 3 (k.map ah),ai d] (ai (k.length-d-1)):=aj9 k d ae ae
 refine aW Tryz.func82 ?_
 refine aZ ?_
 refine a9 18 aq ?_
 refine aA ?_
 refine cp au (aEF k d hk) ?_
 refine aT ?_
 refine ak (aP (v:=true) rfl rfl ((rfl)) rfl) jO ?_
 refine ak (aP (v:=true) rfl rfl ((rfl)) rfl) gg ?_
 refine ak (aP (v:=true) rfl rfl ((rfl)) rfl) wV ?_
 refine ak (aP (v:=true) rfl rfl ((rfl)) rfl) jO ?_
 refine ak (aP (v:=true) rfl rfl ((rfl)) rfl) gg ?_
 refine ak (aP (v:=true) rfl rfl ((rfl)) rfl) jO ?_
 refine ak (aP (v:=true) rfl rfl ((rfl)) rfl) gg ?_
 refine fG (aP (v:=true) rfl rfl ((rfl)) rfl) (.cons et (.cons et .nil)) (hKp) ?_
 refine ak (aP (v:=true) rfl rfl ((rfl)) rfl) (.bin rfl rfl rfl) ?_
 refine ak rfl (.ou rfl ((rfl))) ?_
 refine aA ?_
 exact dT (x:=bL true) (by refine Eq.trans (b:=LV.v (Value.bool (((k.length-d-1:Nat):Int)==((k.length-d-1:Nat):Int)))) rfl ?_;rw [beq_self_eq_true]) (.pure rfl)
namespace aoD
theorem aO {p q:Prop} (k:q) (e:p=q:=by simp only [e1,e2,e3,e4,p1,p2,p3,q1,q2,q3,l1,t0,t1,r1,r2,r3,r4,Nat.zero_add,Nat.reduceMul,Nat.reduceAdd,b1,b2,b3,b4,b5,b6,i1,i2,i3,i4,i5,i6,Nat.reduceBEq,gZ,iS,List.length_map,nt,nm,jK,List.length_cons,List.length_nil,List.nil_append,List.map_nil,List.take_nil,List.append_nil,List.set_cons_zero,List.set_cons_succ,Nat.reduceEqDiff,reduceIte,if_true,if_false,eN,eY,aV bl,aV bF,aV ar,cU,eu,LV.kill,bX,ad1,aV lE];exact rfl):p:=e.mpr k
end aoD
open aoD in
theorem aqh (d:Nat) (k:List Rat) (po:List aG) (R:Nat) (fH:1<=R) (hR:R<=1000) (hd:d<=100) (iI:k.length<=200) (kN:∀ x∈k,rl x<=1000) (gO:po.length<=200) (hpo:∀ q∈po,sf R q):ax an 83 [.agg [ai d,.list 3 (k.map ah),.list 12 (po.map aY)]] (.agg [ai d,.list 3 (k.map ah),.list 12 ((po.map cO).map dz)]):=by
 have gh:LV.pure (.agg [ai d,.list 3 (k.map ah),.list 12 (po.map aY)])=true:=by simp [LV.pure,aN,a7 ar,a7 bF]
 have hsq:LV.pure (.agg [ai d,.list 3 (k.map ah),.list 12 ((po.map cO).map dz)])=true:=by simp [LV.pure,aN,a7 ar,a7 lE,-kU]
 refine aW Tryz.func83 (ht:=(fun g=>LV.di g _ (by simp [LV.pure,aN,a7 ar,a7 lE,-kU]))) ?_
 have gZ:True:=trivial
 have iS:True:=trivial
 refine arc ?_
 refine lR ((az.cell 3 rfl (fun Z μ w cs h=>agc 23 12 _ _ Z μ w cs h)).trans (az.xh _ 23 12 rfl)) ?_
 refine dV (fun(j:Nat) L=>(((((((St.mk L.slot (hp [(1,⟨3,[.agg [ai d,.list 3 (k.map ah),.list 12 (po.map aY)]],true⟩),(2,⟨3,[.agg [.v (.int .i64 0),.v (.slice none 0 0),.v (.slice none 0 0)]],true⟩),(3,⟨3,[.agg [ai d,.list 3 (k.map ah),.ref 23 12 0 j]],true⟩),(23,⟨12,((po.map cO).take j).map dz,true⟩)])).put (some 1) (.aD 1 3 0 0)).put (some 2) (.aD 2 3 0 0)).put (some 3) (.aD 3 3 0 0)).put (some 12) (.list 12 (po.map aY))).put (some 13) (ai po.length)).put (some 14) (ai j))) (fun j=>j<=po.length) (fun j=>po.length-j) 0 (b8 _) ?_
 rintro j L1 hj
 refine aC ?_
 refine aH rfl ?_ ?_<;>intro qI nG
 ·have jr:j<po.length:=by omega
  have hO:ax an 153 [aY (po.getD j default)] (dz (cO (po.getD j default))):=aye (po.getD j default) R ae (hpo _ (sJ jr))
  have iS:(po.map cO).take j++[cO (po.getD j default)]=(po.map cO).take (j+1):=acy cO po jr
  have gZ:(((po.map cO).take j).map dz).take j=((po.map cO).take j).map dz:=dg bz
  refine bG ?_
  refine a9 5 aq ?_
  refine aQ ?_
  refine cp aR (hO) ?_
  refine av ?_
  refine bS rfl (.iJ (d:=23) (news:=[dz (cO (po.getD j default))]) rfl rfl rfl rfl bz (.inl rfl) aj zQ zQ ajj (by first | exact abo | (rw [lE.isAgg];exact abo)) cs ayZ (.inl ⟨22,0,_,rfl,by decide,rfl,rfl,by simp,rfl,by simp [aN,lE.pure]⟩) bz bz aj) ?_
  refine bc ?_
  refine cM ((az.kill _ 5).trans (az.kill _ 22)) ?_
  refine ak rfl cV ?_
  refine aQ ?_
  exact y9
 ·obtain rfl:j=po.length:=by omega
  have hE:(po.map cO).take po.length=(po.map cO):=dg aM
  simp only [hE]
  refine bG ?_
  exact iG [23] rfl rfl rfl cs (dZ cs rfl) agR (.agg (.cons (.pure rfl) (.cons (.pure (a7 ar _)) (.cons (fI lE rfl rfl aM) .nil))))
namespace ax0
theorem aO {p q:Prop} (k:q) (e:p=q:=by simp only [e1,e2,e3,e4,p1,p2,p3,q1,q2,q3,l1,t0,t1,r1,r2,r3,r4,Nat.zero_add,Nat.reduceMul,Nat.reduceAdd,b1,b2,b3,b4,b5,b6,i1,i2,i3,i4,i5,i6,Nat.reduceBEq,gZ,iS,egq,List.length_map,nt,nm,jK,List.length_cons,List.length_nil,List.nil_append,List.map_nil,List.take_nil,List.append_nil,List.set_cons_zero,List.set_cons_succ,Nat.reduceEqDiff,reduceIte,if_true,if_false,eN,eY,aV bl,aV bF,aV ar,cU,eu,LV.kill,bX,ad1,aV lE];exact rfl):p:=e.mpr k
end ax0
open ax0 in
theorem akI (d:Nat) (k:List Rat) (C:List Q4) (R4:Nat) (hR4:R4<=1000000000) (hd:d<=100) (iI:k.length<=200) (kN:∀ x∈k,rl x<=1000) (hCl:C.length<=200) (hCb:∀ q∈C,rv R4 q/\0<q.w):ax an 85 [.agg [ai d,.list 3 (k.map ah),.list 12 (C.map dz)]] (.agg [ai d,.list 3 (k.map ah),.list 12 ((C.map dW).map aY)]):=by
 have hsq:LV.pure (.agg [ai d,.list 3 (k.map ah),.list 12 (C.map dz)])=true:=by simp [LV.pure,aN,a7 ar,a7 lE]
 have hCo:=aBU k ae (fun x hx=>ba (kN x hx) aj)
 refine aW Tryz.func85 (ht:=(fun g=>LV.di g _ ah7)) ?_
 have gZ:True:=trivial
 have iS:True:=trivial
 have egq:True:=trivial
 refine aZ ?_
 refine a9 7 aq ?_
 refine aA ?_
 refine cp aR (hCo) ?_
 refine iE ?_
 refine lR ((az.cell 3 rfl (fun Z μ w cs h=>agc 24 12 _ _ Z μ w cs h)).trans (az.xh _ 24 12 rfl)) ?_
 refine dV (fun(j:Nat) L=>(((((((St.mk L.slot (hp [(1,⟨3,[.agg [ai d,.list 3 (k.map ah),.list 12 (C.map dz)]],true⟩),(2,⟨3,[.agg [.v (.int .i64 0),.v (.slice none 0 0),.v (.slice none 0 0)]],true⟩),(3,⟨3,[.agg [ai d,.list 3 (k.map ah),.ref 24 12 0 j]],true⟩),(24,⟨12,((C.map dW).take j).map aY,true⟩)])).put (some 1) (.aD 1 3 0 0)).put (some 2) (.aD 2 3 0 0)).put (some 3) (.aD 3 3 0 0)).put (some 13) (.list 12 (C.map dz))).put (some 14) (ai C.length)).put (some 15) (ai j))) (fun j=>j<=C.length) (fun j=>C.length-j) 0 (b8 _) ?_
 rintro j L1 hj
 refine aC ?_
 refine aH rfl ?_ ?_<;>intro abC zd
 ·have jr:j<C.length:=by omega
  have hq:=hCb _ (aDy (C:=C) jr)
  have hFP:ax an 96 [dz (C.getD j default)] (aY (dW (C.getD j default))):=asI _ _ _ _ R4 hR4 hq.1.1 hq.1.2.1 hq.1.2.2.1 hq.1.2.2.2 hq.2
  have iS:(C.map dW).take j++[dW (C.getD j default)]=(C.map dW).take (j+1):=by rw [List.take_add_one,g8,b7 jr,bp,b7 jr];rfl
  have gZ:(((C.map dW).take j).map aY).take j=((C.map dW).take j).map aY:=dg bz
  refine bG ?_
  refine a9 5 aq ?_
  refine aQ ?_
  refine fG rfl (.cons (.pure (lE.pure _)) .nil) hFP ?_
  refine av ?_
  refine bS rfl (.iJ (d:=24) (news:=[aY (dW (C.getD j default))]) rfl rfl rfl rfl bz (.inl rfl) aj wB wB Z42 (by first | exact uF | (rw [bF.isAgg];exact uF)) cs B42 (.inl ⟨23,0,_,rfl,by decide,rfl,rfl,by simp,rfl,by simp [aN,bF.pure]⟩) bz bz aj) ?_
  refine bc ?_
  refine cM ((az.kill _ 5).trans (az.kill _ 23)) ?_
  refine ak rfl cV ?_
  refine aQ ?_
  exact y9
 ·obtain rfl:j=C.length:=by omega
  have hE:(C.map dW).take C.length=(C.map dW):=dg aM
  simp only [hE]
  refine bG ?_
  exact iG [24] rfl rfl rfl cs (dZ cs rfl) mj (.agg (.cons (.pure rfl) (.cons (.pure (a7 ar _)) (.cons (fI bF rfl rfl aM) .nil))))
abbrev dt:=Nat × List Rat × List aG
def dU (c:dt):LV:=.agg [ai c.1,.list 3 (c.2.1.map ah),.list 12 (c.2.2.map aY)]
theorem il:iZ dU 3 true:=⟨fun c=>rfl,fun _=>rfl,fun c=>by simp [dU,LV.pure,aN,a7 ar,a7 bF]⟩
theorem ar4 (b:Nat) (c:dt):(dU c).kill b=dU c:=LV.mr b _ (il.pure c)
section
attribute [local irreducible] dU
namespace arj
theorem aO {p q:Prop} (k:q) (e:p=q:=by simp only [e1,e2,e3,e4,p1,p2,p3,q1,q2,q3,l1,t0,t1,r1,r2,r3,r4,Nat.zero_add,Nat.reduceMul,Nat.reduceAdd,b1,b2,b3,b4,b5,b6,i1,i2,i3,i4,i5,i6,Nat.reduceBEq,hds,nz,egd,cN,iS,gZ,List.length_map,List.length_drop,List.length_range,nt,nm,jK,List.length_cons,List.length_nil,List.nil_append,List.map_nil,List.take_nil,List.append_nil,List.set_cons_zero,List.set_cons_succ,Nat.reduceEqDiff,reduceIte,if_true,if_false,eN,eY,aV bl,aV bF,aV ar,cU,eu,LV.kill,bX,ad1,aV lE,ar4,aV il];exact rfl):p:=e.mpr k
end arj
open arj in
theorem aqa (d:Nat) (k D:List Rat) (po:List aG) (QC:Nat->List Q4) (n:Nat) (hn:D.length=n+1) (hn9:n<=100) (lS:0<k.length) (iI:k.length<=200) (kN:∀ x∈k,rl x<=64) (hds:dk k k.length=D) (hSo:ax an 82 [.agg [ai d,.list 3 (k.map ah),.list 12 (po.map aY)]] (bL true)) (hOf:ax an 83 [.agg [ai d,.list 3 (k.map ah),.list 12 (po.map aY)]] (.agg [ai d,.list 3 (k.map ah),.list 12 ((po.map cO).map dz)])) (hCu:∀ i,i<n->ax an 86 [.agg [ai d,.list 3 (k.map ah),.list 12 ((po.map cO).map dz)],ah (D.getD i 0),ah (D.getD (i+1) 0)] (.agg [ai d,.list 3 ((bu d (D.getD i 0) (D.getD (i+1) 0)).map ah),.list 12 ((QC i).map dz)])) (hBk:∀ i,i<n->ax an 85 [.agg [ai d,.list 3 ((bu d (D.getD i 0) (D.getD (i+1) 0)).map ah),.list 12 ((QC i).map dz)]] (dU ((d,bu d (D.getD i 0) (D.getD (i+1) 0),(QC i).map dW):dt))):ax an 39 [.agg [ai d,.list 3 (k.map ah),.list 12 (po.map aY)]] (.list 3 (((c9 n).map fun i=>((d,bu d (D.getD i 0) (D.getD (i+1) 0),(QC i).map dW):dt)).map dU)):=by
 have gh:LV.pure (.agg [ai d,.list 3 (k.map ah),.list 12 (po.map aY)])=true:=by simp [LV.pure,aN,a7 ar,a7 bF]
 have hsq:LV.pure (.agg [ai d,.list 3 (k.map ah),.list 12 ((po.map cO).map dz)])=true:=by simp [LV.pure,aN,a7 ar,a7 lE,-kU]
 have hDa:=auc k lS ae (fun x hx=>ba (kN x hx) aj)
 have nz:D.length-1=n:=by omega
 refine aW Tryz.func39 (ht:=(fun g=>LV.di g _ (fc il 3 _))) ?_
 have egd:True:=trivial
 have iS:True:=trivial
 have gZ:True:=trivial
 refine bM ?_
 refine cp aR (hSo) ?_
 refine aQ ?_
 refine ff (b:=_) rfl (rfl) ?_
 refine bM ?_
 refine cp aR (hOf) ?_
 refine bo ?_
 refine cp aR (hDa) ?_
 refine aZ ?_
 refine ak rfl (.acn (a:=1) ar rfl dI db rfl om) ?_
 refine bc ?_
 refine lR (az.own (t:=3) 34 3 rfl rfl) ?_
 refine dV (fun(i:Nat) L=>((((((((St.mk L.slot (hp [(1,⟨3,[.agg [ai d,.list 3 (k.map ah),.list 12 (po.map aY)]],true⟩),(4,⟨3,[.agg [ai d,.list 3 (k.map ah),.list 12 ((po.map cO).map dz)]],true⟩),(34,⟨3,((c9 i).map fun i=>((d,bu d (D.getD i 0) (D.getD (i+1) 0),(QC i).map dW):dt)).map dU,true⟩)])).put (some 1) (.aD 1 3 0 0)).put (some 3) (.ref 34 3 0 i)).put (some 4) (.aD 4 3 0 0)).put (some 5) (.list 3 (D.map ah))).put (some 17) (.list 3 ((D.drop 1).map ah))).put (some 18) (ai n)).put (some 19) (ai i))) (fun i=>i<=n) (fun i=>n-i) 0 (b8 _) ?_
 rintro i L1 hi
 refine aC ?_
 refine aH rfl ?_ ?_<;>intro aaL h20
 ·have dR:i<n:=by omega
  have egd:(D.drop 1).getD i 0=D.getD (i+1) 0:=by rw [bp,tc,bp,qB 1 i]
  have aH2:LV.pure (.agg [ai d,.list 3 ((bu d (D.getD i 0) (D.getD (i+1) 0)).map ah),.list 12 ((QC i).map dz)])=true:=by simp [LV.pure,aN,a7 ar,a7 lE]
  have hcu:=hCu i dR
  have lX:=hBk i dR
  have hpc:LV.pure (dU ((d,bu d (D.getD i 0) (D.getD (i+1) 0),(QC i).map dW):dt))=true:=il.pure _
  have aFN:aN [dU ((d,bu d (D.getD i 0) (D.getD (i+1) 0),(QC i).map dW):dt)]=true:=by simp only [aN,hpc,aaz]
  have iS:((c9 i).map fun i=>((d,bu d (D.getD i 0) (D.getD (i+1) 0),(QC i).map dW):dt))++[((d,bu d (D.getD i 0) (D.getD (i+1) 0),(QC i).map dW):dt)]=((c9 (i+1)).map fun i=>((d,bu d (D.getD i 0) (D.getD (i+1) 0),(QC i).map dW):dt)):=awn (fun i=>((d,bu d (D.getD i 0) (D.getD (i+1) 0),(QC i).map dW):dt)) i
  have gZ:(((c9 i).map fun i=>((d,bu d (D.getD i 0) (D.getD (i+1) 0),(QC i).map dW):dt)).map dU).take i=((c9 i).map fun i=>((d,bu d (D.getD i 0) (D.getD (i+1) 0),(QC i).map dW):dt)).map dU:=dg aM
  refine aZ ?_
  refine ak rfl (by first | exact .amv ar rfl dI db rfl (by first | omega | (simp only [lg];omega)) (by first | omega | (simp only [lg];omega)) | exact .xe rfl dI db rfl (by first | omega | (simp only [lg];omega)) (by first | omega | (simp only [lg];omega))) ?_
  refine aC ?_
  refine a9 10 aq ?_
  refine aA ?_
  refine ak rfl (by first | exact .amv ar rfl dI db rfl ae ae | exact .xe rfl dI db rfl ae ae) ?_
  refine ak rfl (by first | exact .ahY ar rfl db | exact .atE ar rfl rfl db ae | exact .gj rfl rfl rfl rfl rfl rfl db) ?_
  refine av ?_
  refine aO ?_
  refine cp ig (hcu) ?_
  refine fG rfl (.cons (.pure aH2) .nil) lX ?_
  try refine aO ?_
  refine fL rfl rfl (aax (z:=.agg [.v (.int .i64 0),.v (.slice none 0 0),.v (.slice none 0 0)]) (v:=dU ((d,bu d (D.getD i 0) (D.getD (i+1) 0),(QC i).map dW):dt)) agC Z28 rfl rfl mj rfl (il.aw _) (il.isAgg _) hpc aj aj) ?_
  refine bS rfl (.iJ (d:=34) (sz:=3) (news:=[dU ((d,bu d (D.getD i 0) (D.getD (i+1) 0),(QC i).map dW):dt)]) (z:=.agg [.v (.int .i64 0),.v (.slice none 0 0),.v (.slice none 0 0)]) rfl rfl rfl rfl aM (.inl rfl) aj agC agC Z28 mj rfl B28 (.inl ⟨33,0,_,rfl,by decide,rfl,rfl,by simp,rfl,aFN⟩) bz bz aj) ?_
  refine aA ?_
  refine cM ((az.kill _ 7).trans (az.kill _ 33)) ?_
  refine ak rfl cV ?_
  refine aQ ?_
  exact l5
 ·obtain rfl:n=i:=by omega
  refine bG ?_
  exact o4 [34] rfl rfl (fI (l:=((c9 n).map fun i=>((d,bu d (D.getD i 0) (D.getD (i+1) 0),(QC i).map dW):dt))) il rfl rfl aM)
end
open an2 in
theorem aqU (l:List (Rat × Rat)) (wd:Rat) (hl:l.length<=1000) (hb:∀ s∈l,dC 1000000 s) (hwd:rl wd<=1000000):ax an 88 [.list 6 (l.map aE),ah wd] (bL (aa7 l wd)):=by
 refine aW Tryz.func88 ?_
 refine iE ?_
 refine dV (fun(i:Nat) L=>(((((St.mk L.slot (hp [(3,⟨3,[ah wd],true⟩)])).put (some 3) (.aD 3 3 0 0)).put (some 7) (.list 6 (l.map aE))).put (some 8) (ai l.length)).put (some 9) (ai i))) (fun i=>i<=l.length/\∀ j,j<i->¬wd<(l.getD j default).2-(l.getD j default).1) (fun i=>l.length-i) 0 ⟨b8 _,fun j h=>absurd h (Nat.not_lt_zero _)⟩ ?_
 rintro i L1 ⟨hi,nI⟩
 refine aC ?_
 refine aH rfl ?_ ?_<;>intro ob qf
 ·have dR:i<l.length:=by omega
  obtain⟨kT,xr⟩:=hb _ (anX dR)
  have hw:=jF (l.getD i default).2 (l.getD i default).1
  refine dH ?_
  refine a9 5 aq ?_
  refine av ?_
  refine cp aR (ami (l.getD i default) ae) ?_
  refine av ?_
  refine cp au (n7 ((l.getD i default).2-(l.getD i default).1) wd ae) ?_
  refine aQ ?_
  refine aH rfl ?_ ?_<;>intro ac2 h17
  ·have hR:aa7 l wd=true:=by
    unfold aa7
    rw [List.any_eq_true]
    exact⟨_,anX dR,decide_eq_true (vB.1 h17)⟩
   refine bC ?_
   rw [hR]
   exact n6
  ·have aDB:∀ j,j<i+1->¬wd<(l.getD j default).2-(l.getD j default).1:=fun j hj=>by
    rcases Nat.lt_succ_iff_lt_or_eq.1 hj with g | rfl
    ·exact nI j g
    ·exact fun e=>by have:=vB.2 e;omega
   refine aQ ?_
   refine cM (az.kill _ 6) ?_
   refine ak rfl cV ?_
   refine aQ ?_
   exact jL (i+1) ⟨ae,aDB⟩
 ·obtain rfl:l.length=i:=by omega
  have hR:aa7 l wd=false:=by
   unfold aa7
   rw [List.any_eq_false]
   intro s hs
   obtain⟨j,hj,rfl⟩:=List.getElem_of_mem hs
   have:=nI j hj
   rw [bp,b7 hj] at this
   simpa using this
  refine bC ?_
  rw [hR]
  exact n6
section
variable {D W na:Nat} {wd:Rat} {lk:ky} {x:fN} {st:List fN} {m:Nat} {cl:List ij}
theorem aBC (h:W<=m):mL D W na wd lk (x :: st,m,cl)=(st,m,cl++[nN na x (false,0,0)]):=by rw [mL,if_pos h]
theorem aCy (h:¬W<=m) (hd:(lk (x.1.take na) (x.1.drop na)).1=true):mL D W na wd lk (x :: st,m,cl)=(st,m+1,cl):=by rw [mL,if_neg h,if_pos hd]
theorem aco (h:¬W<=m) (hd:(lk (x.1.take na) (x.1.drop na)).1=false) (hk:pz D wd x (lk (x.1.take na) (x.1.drop na))=true) :
  mL D W na wd lk (x :: st,m,cl)=(st,m+1,cl++[nN na x (lk (x.1.take na) (x.1.drop na))]):=by
 rw [mL,if_neg h,if_neg (by rw [hd];decide),if_pos hk]
theorem alk (h:¬W<=m) (hd:(lk (x.1.take na) (x.1.drop na)).1=false) (hk:pz D wd x (lk (x.1.take na) (x.1.drop na))=false) :
  mL D W na wd lk (x :: st,m,cl)=(qg x :: qL x :: st,m+1,cl):=by
 rw [mL,if_neg h,if_neg (by rw [hd];decide),if_neg (by rw [hk];decide)]
theorem azI {v:Bool × Nat × Nat} (hk:lC v=3\/lC v=4) (hw:cW wd=0):pz D wd x v=true:=by
 unfold pz;rw [decide_eq_true hk,decide_eq_true (akX hw)];rfl
theorem azs {v:Bool × Nat × Nat} (hk:lC v=3\/lC v=4) (hw:aa7 x.1 wd=false):pz D wd x v=true:=by
 unfold pz;rw [decide_eq_true hk,hw];simp
theorem aoh {v:Bool × Nat × Nat} (hk:D<=x.2.1):pz D wd x v=true:=by
 unfold pz;rw [decide_eq_true hk,Bool.or_true]
theorem akh {v:Bool × Nat × Nat} (hk:¬(lC v=3\/lC v=4)) (hd:¬D<=x.2.1):pz D wd x v=false:=by
 unfold pz;rw [decide_eq_false hk,decide_eq_false hd];rfl
theorem ak2 {v:Bool × Nat × Nat} (h0:¬cW wd=0) (hw:aa7 x.1 wd=true) (hd:¬D<=x.2.1):pz D wd x v=false:=by
 unfold pz;rw [decide_eq_false (show ¬wd=0 from fun e=>h0 (by rw [e];rfl)),hw,decide_eq_false hd];simp
end
namespace ayz
theorem aO {p q:Prop} (k:q) (e:p=q:=by simp only [e1,e2,e3,e4,p1,p2,p3,q1,q2,q3,l1,t0,t1,r1,r2,r3,r4,Nat.zero_add,Nat.reduceMul,Nat.reduceAdd,b1,b2,b3,b4,b5,b6,i1,i2,i3,i4,i5,i6,Nat.reduceBEq,aix,aAA,htz,List.drop_zero,azB,aJU,List.map_cons,List.reverse_cons,List.reverse_nil,List.append_assoc,List.singleton_append,fy,nN,aff,auH,ekv,ekK,gZ,edk,esc,xD,atT,htA,hrp,ll,vdL,hAl,fy0,fyc,aV ck,aV pP,aV aeg,aV aay,List.length_map,List.length_append,List.length_replicate,hAB,nt,nm,jK,List.length_cons,List.length_nil,List.nil_append,List.map_nil,List.take_nil,List.append_nil,List.set_cons_zero,List.set_cons_succ,Nat.reduceEqDiff,reduceIte,if_true,if_false,eN,eY,aV bl,aV bF,aV ar,cU,eu,LV.kill,bX];exact rfl):p:=e.mpr k
end ayz
open ayz in
theorem azq (f na n D W:Nat) (cap:List LV) (lk:ky) (I:fN->Prop) (hL:ae1 an f cap D na n lk I) (gh:aN cap=true) (hcs:∀ x∈cap,x.aw=1/\x.isAgg=false) (A B:List Sp) (hna:A.length=na) (hA0:0<A.length) (hB0:0<B.length) (hn:A.length+B.length=n) (hn9:n<=10) (hI0:I (A++B,0,ay n 0)) (wd:Rat) (hwd:rl wd<=100) (n0:Nat) (cz:List ij) (hD9:D<=24) (hW9:W<=4096) (jn:n0<=4096) (aLi:cz.length<=100000000):aaR an 40 ⟨7,[.agg [.agg [ai D,ai W,ah wd],.ref 1 4 0 cz.length,ai n0]],true⟩ ⟨4,cz.map fy,true⟩ [.aD 0 7 0 0,.list 6 (A.map aE),.list 6 (B.map aE),.dq f cap] (.bf []) ⟨7,[.agg [.agg [ai D,ai W,ah wd],.ref 1 4 0 (xb D W na wd lk ([(A++B,0,ay n 0)],n0,cz)).2.2.length,ai (xb D W na wd lk ([(A++B,0,ay n 0)],n0,cz)).2.1]],true⟩ [⟨4,(xb D W na wd lk ([(A++B,0,ay n 0)],n0,cz)).2.2.map fy,true⟩]:=by
 have aiU:=hL.sp _ hI0
 have hsA:∀ s∈A,dC 1000000 s/\s.1<=s.2:=fun s hs=>⟨(aiU s (asG _ hs)).1.le aj,(aiU s (asG _ hs)).2⟩
 have hsB:∀ s∈B,dC 1000000 s/\s.1<=s.2:=fun s hs=>⟨(aiU s (ayi _ hs)).1.le aj,(aiU s (ayi _ hs)).2⟩
 have hfA:=asu A hA0 ae hsA
 have hPB:=akr B hB0 ae hsB
 have hpA:=fc ck 6 A
 have hpB:=fc ck 6 B
 have aDi:=fc ck 6 (A++B)
 have hAl:(A++B).length=n:=by rw [lT];exact hn
 have htA:(A.map aE).take A.length=A.map aE:=dg aM
 have hAB:A.map aE++B.map aE=(A++B).map aE:=abR.symm
 have hrp:ay n (fZ 0)=(ay n (0:Int)).map fZ:=by rw [List.map_replicate]
 have hpz:aN ((ay n (0:Int)).map fZ)=true:=a7 pP _
 have hSg:=yu wd ae
 have htz:((ay n (0:Int)).map fZ).take n=(ay n (0:Int)).map fZ:=dg aM
 have aLc:LV.pure (.dq f cap)=true:=by simpa [LV.pure] using gh
 have hE0:=amA D W na wd lk ([(A++B,0,ay n 0)],n0,cz)
 have aKz:ie D [(A++B,0,ay n 0)]<=100000000:=by
  have hpw:2 ^ (D-0)<=2 ^ 24:=mh aj ae
  rw [aeb]
  show 2*2 ^ (D-0)-1+0<=_
  omega
 refine fnC Tryz.func40 ?_
 have aff:True:=trivial
 have auH:True:=trivial
 have ekv:True:=trivial
 have ekK:True:=trivial
 have gZ:True:=trivial
 have edk:True:=trivial
 have esc:True:=trivial
 have xD:True:=trivial
 have atT:True:=trivial
 refine aQ ?_
 refine aba [] rfl rfl (.cons (.pure hpA) .nil) hfA (a7 ck _) rfl ?_
 refine av ?_
 refine cp aR (hPB) ?_
 refine bS rfl (.iJ (d:=20) (news:=B.map aE) rfl rfl rfl rfl aM (.inr rfl) aj rf rf abK awi cs B54 (.inr (.inl rfl)) bz bz aj) ?_
 refine aA ?_
 refine cM ((az.hand (t:=8) (b:=20) (l:=A++B) ck rfl rfl (by rw [lT])).trans (az.refl _)) ?_
 try refine aO ?_
 refine aQ ?_
 try refine aO ?_
 refine fL rfl rfl (.aor (n:=n) (m:=n) pP Tryz.underlying22 (show dp _ _ (fZ 0) from Z3) T3 B3 rfl rfl ae ae ae) ?_
 refine av ?_
 try refine aO ?_
 refine fL rfl rfl (aBk (z:=ll ([],0,[])) (v:=.agg [.list 6 ((A++B).map aE),iL 0,.ref 24 1 0 n]) aof anM rfl rfl zb rfl rfl rfl aM aM aj aj) ?_
 refine aA ?_
 refine lR (((az.aCm 26 [24] rfl rfl (.agg (.cons (.pure aDi) (.cons (.pure rfl) (.cons (afP rfl rfl hpz aM) .nil)))))).trans (az.kill _ 24)) ?_
 refine lp4 (fun(st jk:List fN) (m:Nat) (cw:List ij) L=>(((((St.mk L.slot (hp [(0,⟨7,[.agg [.agg [ai D,ai W,ah wd],.ref 1 4 0 cw.length,ai m]],true⟩),(1,⟨4,cw.map fy,true⟩),(26,⟨3,(st.reverse++jk).map ll,true⟩)])).put (some 0) (.aD 0 7 0 0)).put (some 1) (.list 6 (A.map aE))).put (some 3) (.dq f cap)).put (some 9) (.ref 26 3 0 st.length))) (fun st jk m cw=>abI D W na wd lk (st,m,cw) (xb D W na wd lk ([(A++B,0,ay n 0)],n0,cz))/\(∀ x∈st,I x)/\m<=4096/\cw.length+ie D st<=200000000) (fun st jk m cw=>ie D st) ([(A++B,0,ay n 0)]) ([]) n0 cz ⟨hE0,fun y hy=>by rw [gS.1 hy];exact hI0,jn,ae⟩ ?_
 rintro st jk m cw L1 ⟨hE,hI,hm9,hc9⟩
 refine bo ?_
 refine aH rfl ?_ ?_<;>intro abN h29
 ·obtain⟨x,st,rfl⟩:∃ x s,st=x :: s:=by
   cases st with
   | nil=>simp at h29
   | cons x s=>exact⟨x,s,rfl⟩
  have esc:=aA5 x st jk
  have hln:(x :: st).length=st.length+1:=rfl
  have pL:=hI x aM
  have wG:∀ y∈st,I y:=fun y hy=>hI y (by simp [hy])
  have hlk:=hL.look x pL
  have hlx:=(hL.len x pL).1
  have bH:=(hL.len x pL).2
  have hdx:=hL.dep x pL
  have vL:=hL.sp x pL
  have hkd:=hL.kd x pL
  have hmw:=afL D x
  have hmc:=aeb (D:=D) (x:=x) (st:=st)
  have xG:st.length+1<=ie D (x :: st):=aqd (D:=D) (x :: st)
  have vR:=hE.step
  have aff:x.1.take A.length=x.1.take na:=by rw [hna]
  have auH:x.1.drop A.length=x.1.drop na:=by rw [hna]
  have gZ:(x.1.map aE).take A.length=(x.1.take na).map aE:=by rw [hna,List.map_take]
  have edk:(x.1.map aE).drop A.length=(x.1.drop na).map aE:=by rw [hna,List.map_drop]
  have hPt:=akr (x.1.take na) (by rw [eP];omega) (by rw [eP];omega) (fun s hs=>⟨(vL s (wh hs)).1.le aj,(vL s (wh hs)).2⟩)
  have hPd:=akr (x.1.drop na) (by rw [lg];omega) (by rw [lg];omega) (fun s hs=>⟨(vL s (wg hs)).1.le aj,(vL s (wg hs)).2⟩)
  have aqR:LV.pure (.agg [.list 6 ((x.1.take na).map aE),.list 6 ((x.1.drop na).map aE),ai 1,ai 0])=true:=an0 (x.1.take na,x.1.drop na,1,0)
  have aa4:LV.pure (.agg [.list 6 ((x.1.take na).map aE),.list 6 ((x.1.drop na).map aE),ai (lC (lk (x.1.take na) (x.1.drop na))),ai (kV (lk (x.1.take na) (x.1.drop na)))])=true:=an0 (x.1.take na,x.1.drop na,lC (lk (x.1.take na) (x.1.drop na)),kV (lk (x.1.take na) (x.1.drop na)))
  have aDP:aN [.agg [.list 6 ((x.1.take na).map aE),.list 6 ((x.1.drop na).map aE),ai 1,ai 0]]=true:=by simp only [aN,aqR,aaz]
  have aEr:aN [.agg [.list 6 ((x.1.take na).map aE),.list 6 ((x.1.drop na).map aE),ai (lC (lk (x.1.take na) (x.1.drop na))),ai (kV (lk (x.1.take na) (x.1.drop na)))]]=true:=by simp only [aN,aa4,aaz]
  have hpt:=fc ck 6 (x.1.take na)
  have hpd:=fc ck 6 (x.1.drop na)
  have atT:(cw.map fy).take cw.length=cw.map fy:=dg aM
  refine bo ?_
  refine ak rfl lK ?_
  try refine aO ?_
  refine ak rfl (.xe rfl aof zb rfl ym ym) ?_
  try refine aO ?_
  refine ak rfl (.gj (b:=26) (sz:=3) (i:=st.length) (o:=0) (x:=ll x) (r:=ll x) (n:=3) (ag:=true) rfl rfl rfl (aHA x st jk) (aeg.aw _) (dZ (aeg.aw _) rfl) zb) ?_
  refine bD ?_
  refine ak rfl lK ?_
  refine ak rfl (.aiq rfl aof zb rfl om om) ?_
  refine aA ?_
  refine a9 14 aq ?_
  refine aA ?_
  try refine aO ?_
  refine ak rfl (by first | exact .arw (h:=A.length) ck rfl rf oA rfl om | exact .aiq rfl rf oA rfl om om) ?_
  try refine aO ?_
  refine cp aR (hPt) ?_
  refine aA ?_
  try refine aO ?_
  refine ak rfl (.acn (a:=A.length) ck rfl rf oA rfl om) ?_
  try refine aO ?_
  refine cp aR (hPd) ?_
  refine aZ ?_
  refine a9 10 aq ?_
  refine bG ?_
  refine aH rfl ?_ ?_<;>intro anU gU
  ·have vw:W<=m:=by omega
   refine av ?_
   refine iC 7 [0] aq ?_
   refine aC ?_
   try refine aO ?_
   refine fL rfl rfl (aax (z:=fy ([],[],0,0)) (v:=.agg [.list 6 ((x.1.take na).map aE),.list 6 ((x.1.drop na).map aE),ai 1,ai 0]) lI yF rfl rfl mB rfl rfl rfl aqR aj aj) ?_
   refine bS rfl (.iJ (d:=1) (news:=[.agg [.list 6 ((x.1.take na).map aE),.list 6 ((x.1.drop na).map aE),ai 1,ai 0]]) rfl rfl rfl rfl aM (.inl rfl) aj lI lI yF mB rfl B51 (.inl ⟨70,0,_,rfl,by decide,rfl,rfl,by simp,rfl,aDP⟩) bz bz aj) ?_
   try refine aO ?_
   refine aT ?_
   try refine aO ?_
   refine aZ ?_
   exact rP st (x :: jk) m (cw++[nN na x (false,0,0)]) ⟨(aBC (D:=D) (wd:=wd) vw ▸ vR),wG,hm9,abG⟩ (he:=((((az.kill _ 10).trans (az.kill _ 11)).trans (az.kill _ 70))).trans (az.of_eq (al (al (al (al (bK (by first | exact cl | (refine aO ?_;refine jG ?_ ?_<;>repeat (first | exact trivial | refine jN rfl ?_)))) cl) cl) cl) cl)))
  ·have vw:¬W<=m:=by omega
   refine bo ?_
   refine ak rfl cV ?_
   refine bG ?_
   try refine aO ?_
   refine oD [] rfl rfl (.dq (f:=f) (cap:=cap) (args:=[.list 6 ((x.1.take na).map aE),.list 6 ((x.1.drop na).map aE)]) rfl (.cons (.pure hpt) (.cons (.pure hpd) .nil)) ⟨gh,hcs⟩ hlk.1 aj (fun _ h=>by cases h)) (hlk.2 _) ?_
   refine bC ?_
   refine aH rfl ?_ ?_<;>intro aHd wm
   ·refine aA ?_
    exact rP st (x :: jk) (m+1) cw ⟨(aCy (D:=D) (wd:=wd) vw wm ▸ vR),wG,ae,ae⟩ (he:=((((az.kill _ 10).trans (az.kill _ 11)).trans (az.kill _ 12))).trans (az.of_eq (al (al (al (al (bK (by first | exact cl | (refine aO ?_;refine jG ?_ ?_<;>repeat (first | exact trivial | refine jN rfl ?_)))) cl) cl) cl) cl)))
   ·refine aA ?_
    refine cM (az.cr (t:=12) (b:=12) rfl rfl rfl rfl rfl) ?_
    try refine aO ?_
    refine bc ?_
    refine iM (fun L=>∃  (L1:St),(True)/\L=(((((((St.mk L1.slot (hp [(0,⟨7,[.agg [.agg [ai D,ai W,ah wd],.ref 1 4 0 cw.length,ai (m+1)]],true⟩),(1,⟨4,cw.map fy,true⟩),(26,⟨3,(st.reverse++(x :: jk)).map ll,true⟩),(10,⟨3,[.agg [.list 6 (x.1.map aE),ai x.2.1,.list 1 (x.2.2.map fZ)]],true⟩),(11,⟨4,[.agg [.list 6 ((x.1.take na).map aE),.list 6 ((x.1.drop na).map aE),ai (lC (lk (x.1.take na) (x.1.drop na))),ai (kV (lk (x.1.take na) (x.1.drop na)))]],true⟩)])).put (some 0) (.aD 0 7 0 0)).put (some 1) (.list 6 (A.map aE))).put (some 3) (.dq f cap)).put (some 9) (.ref 26 3 0 st.length)).put (some 10) (.aD 10 3 0 0)).put (some 11) (.aD 11 4 0 0))) ?_ ?_
    ·refine aH rfl ?_ ?_<;>intro aLG h91
     ·have ekv:lC (lk (x.1.take na) (x.1.drop na))=(lk (x.1.take na) (x.1.drop na)).2.1:=if_neg ae
      have ekK:kV (lk (x.1.take na) (x.1.drop na))=(lk (x.1.take na) (x.1.drop na)).2.2:=if_neg ae
      refine ab3 ?_
      refine iP 0 rfl rfl aq (.pure jO) lD iQ ?_
      refine iP 1 rfl rfl aq (.pure gg) lD iQ ?_
      refine iP 2 rfl rfl aq (.pure jO) lD iQ ?_
      refine iP 3 rfl rfl aq (.pure gg) lD iQ ?_
      refine a6 4 _ aq rfl ?_
      refine av ?_
      refine aK ?_
      refine a6 5 _ aq rfl ?_
      refine av ?_
      refine aK ?_
      refine a6 6 _ aq rfl ?_
      refine av ?_
      refine aK ?_
      refine a6 7 _ aq rfl ?_
      refine av ?_
      refine aK ?_
      refine fW aq ?_
      refine av ?_
      exact afq
     ·have ekv:lC (lk (x.1.take na) (x.1.drop na))=1:=if_pos ae
      have ekK:kV (lk (x.1.take na) (x.1.drop na))=0:=if_pos ae
      refine aT ?_
      exact afq
    ·rintro _ ⟨aLn,-,rfl⟩
     refine aZ ?_
     refine ez 101 rfl ?_ ?_<;>intro aLH aKK
     ·refine bD ?_
      refine a9 31 aq ?_
      refine aZ ?_
      refine cp aR (hSg) ?_
      refine aT ?_
      refine ez 115 rfl ?_ ?_<;>intro aIp aeP
      ·refine wP ?_
       refine iC 7 [0] aq ?_
       refine aC ?_
       try refine aO ?_
       refine fL rfl rfl (aax (z:=fy ([],[],0,0)) (v:=.agg [.list 6 ((x.1.take na).map aE),.list 6 ((x.1.drop na).map aE),ai (lC (lk (x.1.take na) (x.1.drop na))),ai (kV (lk (x.1.take na) (x.1.drop na)))]) lI yF rfl rfl mB rfl rfl rfl aa4 aj aj) ?_
       refine bS rfl abQ ?_
       try refine aO ?_
       refine aT ?_
       try refine aO ?_
       refine aZ ?_
       exact rP st (x :: jk) (m+1) (cw++[nN na x (lk (x.1.take na) (x.1.drop na))]) ⟨(aco (D:=D) (wd:=wd) vw wm acd ▸ vR),wG,ae,abG⟩ (he:=((((az.kill _ 10).trans (az.kill _ 11)).trans (az.kill _ 143))).trans (az.of_eq (al (al (al (al (bK (by first | exact cl | (refine aO ?_;refine jG ?_ ?_<;>repeat (first | exact trivial | refine jN rfl ?_)))) cl) cl) cl) cl)))
      ·refine aZ ?_
       refine cp au (aqU x.1 wd ae (fun s hs=>(vL s hs).1.le aj) ae) ?_
       refine aA ?_
       refine ez 127 rfl ?_ ?_<;>intro aF5 aeC
       ·refine dH ?_
        refine iC 7 [0] aq ?_
        refine aC ?_
        try refine aO ?_
        refine fL rfl rfl (aax (z:=fy ([],[],0,0)) (v:=.agg [.list 6 ((x.1.take na).map aE),.list 6 ((x.1.drop na).map aE),ai (lC (lk (x.1.take na) (x.1.drop na))),ai (kV (lk (x.1.take na) (x.1.drop na)))]) lI yF rfl rfl mB rfl rfl rfl aa4 aj aj) ?_
        refine bS rfl abQ ?_
        try refine aO ?_
        refine aT ?_
        try refine aO ?_
        refine aZ ?_
        exact rP st (x :: jk) (m+1) (cw++[nN na x (lk (x.1.take na) (x.1.drop na))]) ⟨(aco (D:=D) (wd:=wd) vw wm acd ▸ vR),wG,ae,abG⟩ (he:=((((az.kill _ 10).trans (az.kill _ 11)).trans (az.kill _ 143))).trans (az.of_eq (al (al (al (al (bK (by first | exact cl | (refine aO ?_;refine jG ?_ ?_<;>repeat (first | exact trivial | refine jN rfl ?_)))) cl) cl) cl) cl)))
       ·refine bC ?_
        refine aH rfl ?_ ?_<;>intro amo amF
        ·refine av ?_
         refine iC 7 [0] aq ?_
         refine aC ?_
         try refine aO ?_
         refine fL rfl rfl (aax (z:=fy ([],[],0,0)) (v:=.agg [.list 6 ((x.1.take na).map aE),.list 6 ((x.1.drop na).map aE),ai (lC (lk (x.1.take na) (x.1.drop na))),ai (kV (lk (x.1.take na) (x.1.drop na)))]) lI yF rfl rfl mB rfl rfl rfl aa4 aj aj) ?_
         refine bS rfl abQ ?_
         try refine aO ?_
         refine aT ?_
         try refine aO ?_
         refine aZ ?_
         exact rP st (x :: jk) (m+1) (cw++[nN na x (lk (x.1.take na) (x.1.drop na))]) ⟨(aco (D:=D) (wd:=wd) vw wm acd ▸ vR),wG,ae,abG⟩ (he:=((((az.kill _ 10).trans (az.kill _ 11)).trans (az.kill _ 143))).trans (az.of_eq (al (al (al (al (bK (by first | exact cl | (refine aO ?_;refine jG ?_ ?_<;>repeat (first | exact trivial | refine jN rfl ?_)))) cl) cl) cl) cl)))
        ·have hmh:=amb (D:=D) (x:=x) (st:=st) ae
         have kS:pz D wd x (lk (x.1.take na) (x.1.drop na))=false:=by first | exact ak2 aeP (by simpa using aeC) ae | exact akh ae ae
         refine bc ?_
         refine fG rfl (.cons (.pure (vV x)) .nil) (amc x n D hlx bH ae hn9 hdx ae (hL.tm x pL) 1000 aj vL) ?_
         refine dM ?_
         try refine aO ?_
         refine bS rfl akM ?_
         refine aA ?_
         exact rP (qg x :: qL x :: st) ([]) (m+1) cw ⟨(alk (D:=D) (wd:=wd) vw wm kS ▸ vR),fun y hy=>by
          simp only [fx] at hy
          rcases hy with rfl | rfl | hy
          ·exact(hL.half x pL ae).1
          ·exact(hL.half x pL ae).2
          ·exact wG y hy,ae,ae⟩ (he:=((((((az.kill _ 10).trans (az.kill _ 11)).trans (az.kill _ 14)).trans (az.kill _ 15)).trans (az.kill _ 155))).trans (az.of_eq (al (al (al (al (bK (by first | exact cl | (refine aO ?_;refine jG ?_ ?_<;>repeat (first | exact trivial | refine jN rfl ?_)))) cl) cl) cl) cl)))
     ·refine bD ?_
      refine a9 31 aq ?_
      refine aT ?_
      refine ez 107 rfl ?_ ?_<;>intro aLw aKH
      ·refine bc ?_
       refine cp aR (hSg) ?_
       refine aT ?_
       refine ez 115 rfl ?_ ?_<;>intro aIp aeP
       ·refine wP ?_
        refine iC 7 [0] aq ?_
        refine aC ?_
        try refine aO ?_
        refine fL rfl rfl (aax (z:=fy ([],[],0,0)) (v:=.agg [.list 6 ((x.1.take na).map aE),.list 6 ((x.1.drop na).map aE),ai (lC (lk (x.1.take na) (x.1.drop na))),ai (kV (lk (x.1.take na) (x.1.drop na)))]) lI yF rfl rfl mB rfl rfl rfl aa4 aj aj) ?_
        refine bS rfl abQ ?_
        try refine aO ?_
        refine aT ?_
        try refine aO ?_
        refine aZ ?_
        exact rP st (x :: jk) (m+1) (cw++[nN na x (lk (x.1.take na) (x.1.drop na))]) ⟨(aco (D:=D) (wd:=wd) vw wm acd ▸ vR),wG,ae,abG⟩ (he:=((((az.kill _ 10).trans (az.kill _ 11)).trans (az.kill _ 143))).trans (az.of_eq (al (al (al (al (bK (by first | exact cl | (refine aO ?_;refine jG ?_ ?_<;>repeat (first | exact trivial | refine jN rfl ?_)))) cl) cl) cl) cl)))
       ·refine aZ ?_
        refine cp au (aqU x.1 wd ae (fun s hs=>(vL s hs).1.le aj) ae) ?_
        refine aA ?_
        refine ez 127 rfl ?_ ?_<;>intro aF5 aeC
        ·refine dH ?_
         refine iC 7 [0] aq ?_
         refine aC ?_
         try refine aO ?_
         refine fL rfl rfl (aax (z:=fy ([],[],0,0)) (v:=.agg [.list 6 ((x.1.take na).map aE),.list 6 ((x.1.drop na).map aE),ai (lC (lk (x.1.take na) (x.1.drop na))),ai (kV (lk (x.1.take na) (x.1.drop na)))]) lI yF rfl rfl mB rfl rfl rfl aa4 aj aj) ?_
         refine bS rfl abQ ?_
         try refine aO ?_
         refine aT ?_
         try refine aO ?_
         refine aZ ?_
         exact rP st (x :: jk) (m+1) (cw++[nN na x (lk (x.1.take na) (x.1.drop na))]) ⟨(aco (D:=D) (wd:=wd) vw wm acd ▸ vR),wG,ae,abG⟩ (he:=((((az.kill _ 10).trans (az.kill _ 11)).trans (az.kill _ 143))).trans (az.of_eq (al (al (al (al (bK (by first | exact cl | (refine aO ?_;refine jG ?_ ?_<;>repeat (first | exact trivial | refine jN rfl ?_)))) cl) cl) cl) cl)))
        ·refine bC ?_
         refine aH rfl ?_ ?_<;>intro amo amF
         ·refine av ?_
          refine iC 7 [0] aq ?_
          refine aC ?_
          try refine aO ?_
          refine fL rfl rfl (aax (z:=fy ([],[],0,0)) (v:=.agg [.list 6 ((x.1.take na).map aE),.list 6 ((x.1.drop na).map aE),ai (lC (lk (x.1.take na) (x.1.drop na))),ai (kV (lk (x.1.take na) (x.1.drop na)))]) lI yF rfl rfl mB rfl rfl rfl aa4 aj aj) ?_
          refine bS rfl abQ ?_
          try refine aO ?_
          refine aT ?_
          try refine aO ?_
          refine aZ ?_
          exact rP st (x :: jk) (m+1) (cw++[nN na x (lk (x.1.take na) (x.1.drop na))]) ⟨(aco (D:=D) (wd:=wd) vw wm acd ▸ vR),wG,ae,abG⟩ (he:=((((az.kill _ 10).trans (az.kill _ 11)).trans (az.kill _ 143))).trans (az.of_eq (al (al (al (al (bK (by first | exact cl | (refine aO ?_;refine jG ?_ ?_<;>repeat (first | exact trivial | refine jN rfl ?_)))) cl) cl) cl) cl)))
         ·have hmh:=amb (D:=D) (x:=x) (st:=st) ae
          have kS:pz D wd x (lk (x.1.take na) (x.1.drop na))=false:=by first | exact ak2 aeP (by simpa using aeC) ae | exact akh ae ae
          refine bc ?_
          refine fG rfl (.cons (.pure (vV x)) .nil) (amc x n D hlx bH ae hn9 hdx ae (hL.tm x pL) 1000 aj vL) ?_
          refine dM ?_
          try refine aO ?_
          refine bS rfl akM ?_
          refine aA ?_
          exact rP (qg x :: qL x :: st) ([]) (m+1) cw ⟨(alk (D:=D) (wd:=wd) vw wm kS ▸ vR),fun y hy=>by
           simp only [fx] at hy
           rcases hy with rfl | rfl | hy
           ·exact(hL.half x pL ae).1
           ·exact(hL.half x pL ae).2
           ·exact wG y hy,ae,ae⟩ (he:=((((((az.kill _ 10).trans (az.kill _ 11)).trans (az.kill _ 14)).trans (az.kill _ 15)).trans (az.kill _ 155))).trans (az.of_eq (al (al (al (al (bK (by first | exact cl | (refine aO ?_;refine jG ?_ ?_<;>repeat (first | exact trivial | refine jN rfl ?_)))) cl) cl) cl) cl)))
      ·refine avL ?_
       refine aH rfl ?_ ?_<;>intro amo amF
       ·refine av ?_
        refine iC 7 [0] aq ?_
        refine aC ?_
        try refine aO ?_
        refine fL rfl rfl (aax (z:=fy ([],[],0,0)) (v:=.agg [.list 6 ((x.1.take na).map aE),.list 6 ((x.1.drop na).map aE),ai (lC (lk (x.1.take na) (x.1.drop na))),ai (kV (lk (x.1.take na) (x.1.drop na)))]) lI yF rfl rfl mB rfl rfl rfl aa4 aj aj) ?_
        refine bS rfl abQ ?_
        try refine aO ?_
        refine aT ?_
        try refine aO ?_
        refine aZ ?_
        exact rP st (x :: jk) (m+1) (cw++[nN na x (lk (x.1.take na) (x.1.drop na))]) ⟨(aco (D:=D) (wd:=wd) vw wm acd ▸ vR),wG,ae,abG⟩ (he:=((((az.kill _ 10).trans (az.kill _ 11)).trans (az.kill _ 143))).trans (az.of_eq (al (al (al (al (bK (by first | exact cl | (refine aO ?_;refine jG ?_ ?_<;>repeat (first | exact trivial | refine jN rfl ?_)))) cl) cl) cl) cl)))
       ·have hmh:=amb (D:=D) (x:=x) (st:=st) ae
        have kS:pz D wd x (lk (x.1.take na) (x.1.drop na))=false:=by first | exact ak2 aeP (by simpa using aeC) ae | exact akh ae ae
        refine bc ?_
        refine fG rfl (.cons (.pure (vV x)) .nil) (amc x n D hlx bH ae hn9 hdx ae (hL.tm x pL) 1000 aj vL) ?_
        refine dM ?_
        try refine aO ?_
        refine bS rfl akM ?_
        refine aA ?_
        exact rP (qg x :: qL x :: st) ([]) (m+1) cw ⟨(alk (D:=D) (wd:=wd) vw wm kS ▸ vR),fun y hy=>by
         simp only [fx] at hy
         rcases hy with rfl | rfl | hy
         ·exact(hL.half x pL ae).1
         ·exact(hL.half x pL ae).2
         ·exact wG y hy,ae,ae⟩ (he:=((((((az.kill _ 10).trans (az.kill _ 11)).trans (az.kill _ 14)).trans (az.kill _ 15)).trans (az.kill _ 155))).trans (az.of_eq (al (al (al (al (bK (by first | exact cl | (refine aO ?_;refine jG ?_ ?_<;>repeat (first | exact trivial | refine jN rfl ?_)))) cl) cl) cl) cl)))
 ·obtain rfl:st=[]:=by
   cases st with
   | nil=>rfl
   | cons x s=>simp at h29
  have hR:=hE.nil
  refine aA ?_
  rw [hR]
  refine⟨_,az.kill _ 26,?_⟩
  refine aO ?_
  exact aA7 rfl rfl (by show (⟨_,_,_⟩:bg)=⟨_,_,_⟩;simp only [dA,LV.bV,oI,ai,LV.di (sC [1]) (ah wd) (ar.pure wd)];rfl) aM rfl (ac8 _) rfl
theorem azw {l:List (Nat × bg)} {c:Nat} (h:∀ x∈l.map (·.1),x≠c):hp l c=none:=by
 induction l with
 | nil=>rfl
 | cons q t ih =>
  obtain⟨d,y⟩:=q
  have e:oJ c d=false:=by
   rw [<-aaG,yD]
   exact fun e=>h d aM e.symm
  simp only [hp,e,cond_false]
  exact ih fun x hx=>h x (by simp only [nZ,fx];exact .inr hx)
abbrev oS:=Nat × List ij
def pg (d w:Nat) (wd:Rat) (lk:dt->dt->ky) (dm:dt->Sp) (c e:dt) (s:oS):oS:=(xb d w 1 wd (lk c e) ([([dm c]++[dm e],0,ay 2 0)],s.1,s.2)).2
def nw (d w:Nat) (wd:Rat) (lk:dt->dt->ky) (dm:dt->Sp) (c:dt) (l:List dt) (s:oS):oS:=l.foldl (fun s e=>pg d w wd lk dm c e s) s
def og (d w:Nat) (wd:Rat) (lk:dt->dt->ky) (dm:dt->Sp) (l m:List dt) (s:oS):oS:=l.foldl (fun s c=>nw d w wd lk dm c m s) s
theorem aGq {D W na:Nat} {wd:Rat} {lk:ky} (C:Nat) {s:RunT} (hW:W<=4096) (h1:s.2.1<=4096) (h:s.2.2.length+ie D s.1<=C):(xb D W na wd lk s).2.1<=4096/\(xb D W na wd lk s).2.2.length<=C:=by
 have:=(akR (D:=D) (W:=W) (na:=na) (wd:=wd) (lk:=lk) (fun s=>s.2.1<=4096/\s.2.2.length+ie D s.1<=C) (fun x st n cs hI=>by
  have hs:=ame (D:=D) (W:=W) (na:=na) (wd:=wd) (lk:=lk) (x:=x) (st:=st) (n:=n) (cs:=cs)
  have hl:(mL D W na wd lk (x :: st,n,cs)).2.2.length<=cs.length+1:=by
   rw [mL]
   split
   ·simp
   ·split
    ·simp
    ·split<;>simp
  have hn:(mL D W na wd lk (x :: st,n,cs)).2.1<=4096:=by
   have th:n<=4096:=hI.1
   rw [mL]
   split
   ·exact th
   ·split
    ·show n+1<=4096;omega
    ·split<;>(show n+1<=4096;omega)
  have sv:cs.length+ie D (x :: st)<=C:=hI.2
  exact⟨hn,ae⟩) (ie D s.1) (bq _) ⟨h1,h⟩ (amA D W na wd lk s)).1
 exact⟨this.1,by have:=this.2;omega⟩
theorem avq {d w:Nat} {wd:Rat} {lk:dt->dt->ky} {dm:dt->Sp} {c e:dt} {s:oS} (hd:d<=10) (hW:w<=4096) (h1:s.1<=4096) {m:Nat} (h:s.2.length<=m):(pg d w wd lk dm c e s).1<=4096/\(pg d w wd lk dm c e s).2.length<=m+2048:=by
 refine aGq (m+2048) hW h1 ?_
 have hp:2 ^ (d-0)<=2 ^ 10:=mh aj ae
 have e10:(2:Nat) ^ 10=1024:=rfl
 show s.2.length+((2*2 ^ (d-0)-1)+0)<=_
 omega
theorem aCa {d w:Nat} {wd:Rat} {lk:dt->dt->ky} {dm:dt->Sp} {c:dt} {l:List dt} {j:Nat} {s:oS} (h:j<l.length):nw d w wd lk dm c (l.drop j) s=nw d w wd lk dm c (l.drop (j+1)) (pg d w wd lk dm c (l.getD j default) s):=by
 rw [aaC h,bp,b7 h];rfl
theorem aJc {d w:Nat} {wd:Rat} {lk:dt->dt->ky} {dm:dt->Sp} {l m:List dt} {j:Nat} {s:oS} (h:j<l.length):og d w wd lk dm (l.drop j) m s=og d w wd lk dm (l.drop (j+1)) m (nw d w wd lk dm (l.getD j default) m s):=by
 rw [aaC h,bp,b7 h];rfl
theorem aqr {P:Program} {L L0:St} {id:Nat} {ops:Array Oper} {d:Bool} {Q:ku->St->Prop} (hw:az L L0) (h:cP P (.region id ops d) Q L0):cP P (.region id ops d) Q L:=by
 unfold cP at h ⊢
 obtain⟨L1,h1,h2⟩:=h
 exact⟨L1,hw.trans h1,h2⟩
theorem aGN {L:St} {b4 b14:bg} {p:LV} {m n:Nat} {l:List ij} (hpp:p.pure=true) (h4:aN b4.vals=true) (lG:aN b14.vals=true)
  (hL:L.heap=hp [(4,b4),(42,⟨7,[.agg [p,.ref 1001041 4 0 m,ai n]],true⟩),(14,b14),(1001041,⟨4,l.map fy,true⟩)]) :
  az L ⟨fun t=>((L.slot t).kill 144).bV (jm 1001041 144),hp [(4,b4),(42,⟨7,[.agg [p,.ref 144 4 0 m,ai n]],true⟩),(144,⟨4,l.map fy,true⟩),(14,b14)]⟩:=by
 refine(az.aJC (b:=1001041) (b':=144) hL aj aj aj).trans (az.of_eq ?_)
 simp only [St.mk.injEq,true_and]
 have hbq:∀ a b:Nat,oJ a b=(a==b):=fun a b=>by rw [Bool.eq_iff_iff,yD,beq_iff_eq]
 have k4:bX 144 b4.vals=b4.vals:=aeQ 144 _ h4
 have k14:bX 144 b14.vals=b14.vals:=aeQ 144 _ lG
 have kc:bX 144 (l.map fy)=l.map fy:=aV aay ..
 have kr:bX 144 [LV.agg [p,.ref 1001041 4 0 m,ai n]]=[LV.agg [p,.ref 1001041 4 0 m,ai n]]:=by
  simp only [bX,LV.kill,LV.mr _ _ hpp,ai];rfl
 have r4:dA (jm 1001041 144) b4.vals=b4.vals:=oI _ _ h4
 have r14:dA (jm 1001041 144) b14.vals=b14.vals:=oI _ _ lG
 have rc:dA (jm 1001041 144) (l.map fy)=l.map fy:=oI _ _ (ac8 _)
 have rr:dA (jm 1001041 144) [LV.agg [p,.ref 1001041 4 0 m,ai n]]=[LV.agg [p,.ref 144 4 0 m,ai n]]:=by
  simp only [dA,LV.bV,LV.di _ _ hpp,ai];rfl
 refine jG ?_ ?_
 all_goals
  simp only [pH,hbq,wF,cond_false,cond_true,nZ,yT,k4,k14,kc,kr,r4,r14,rc,rr]
  simp only [jm,Nat.reduceEqDiff,reduceIte,af9,hp,hbq,wF,cond_false,cond_true,and_self]
theorem atn {l:List dt} {i:Nat} (h:i<l.length):(l.map dU)[((i:Nat):Int).toNat]?=some (dU (l.getD i default)):=by
 rw [ab0,g8,bp,b7 h];rfl
section
attribute [local irreducible] dU
namespace aqt
theorem aO {p q:Prop} (k:q) (e:p=q:=by simp only [e1,e2,e3,e4,p1,p2,p3,q1,q2,q3,l1,t0,t1,r1,r2,r3,r4,Nat.zero_add,Nat.reduceMul,Nat.reduceAdd,b1,b2,b3,b4,b5,b6,i1,i2,i3,i4,i5,i6,Nat.reduceBEq,hc5,hc7,fy0,fyc,hnM,oI _ _ (ac8 _),List.length_map,nt,nm,jK,List.length_cons,List.length_nil,List.nil_append,List.map_nil,List.take_nil,List.append_nil,aV ck,aV aay,List.getD_cons_zero,List.getD_cons_succ,List.set_cons_zero,List.set_cons_succ,Nat.reduceEqDiff,reduceIte,if_true,if_false,eN,eY,aV bl,aV bF,aV ar,cU,eu,LV.kill,bX,ar4,aV il];exact rfl):p:=e.mpr k
end aqt
open aqt in
theorem aA8 (d1 d2:Nat) (k1 k2:List Rat) (cI cy:List aG) (lY:cI.length<=1000) (oX:cy.length<=1000) (yG:∀ x∈cI,x.p.z=0) (hz2:∀ x∈cy,x.p.z=0) (CA CB:List dt) (hA:CA.length<=10) (hB:CB.length<=10) (d w:Nat) (wd:Rat) (hd:d<=10) (hw:w<=4096) (hwd:rl wd<=100) (lk:dt->dt->ky) (dm:dt->Sp) (I:dt->dt->fN->Prop) (yt:ax an 37 [.agg [ai d,ai w,ah wd]] (bL true)) (hP1:ax an 39 [.agg [ai d1,.list 3 (k1.map ah),.list 12 (cI.map aY)]] (.list 3 (CA.map dU))) (hP2:ax an 39 [.agg [ai d2,.list 3 (k2.map ah),.list 12 (cy.map aY)]] (.list 3 (CB.map dU))) (hD1:∀ c∈CA,ax an 41 [dU c] (aE (dm c))) (hD2:∀ c∈CB,ax an 41 [dU c] (aE (dm c))) (hLk:∀ c∈CA,∀ e∈CB,ae1 an 42 [.cr (dU c),.cr (dU e)] d 1 2 (lk c e) (I c e)) (hI0:∀ c∈CA,∀ e∈CB,I c e ([dm c]++[dm e],0,ay 2 0)):ax an 14 [.agg [ai d1,.list 3 (k1.map ah),.list 12 (cI.map aY)],.agg [ai d2,.list 3 (k2.map ah),.list 12 (cy.map aY)],.agg [ai d,ai w,ah wd]] (.bf [.list 4 ((og d w wd lk dm CA CB (0,[])).2.map fy),iL 0]):=by
 have hc5:(LV.agg [ai d,ai w,ah wd]).aw=5:=by simp [LV.aw,da,ar.aw]
 have hc7:(LV.agg [.agg [ai d,ai w,ah wd],.v (.slice none 0 0),ai 0]).aw=7:=by simp [LV.aw,da,ar.aw]
 have adr:LV.pure (.agg [ai d1,.list 3 (k1.map ah),.list 12 (cI.map aY)])=true:=by simp [LV.pure,aN,a7 ar,a7 bF]
 have zP:LV.pure (.agg [ai d2,.list 3 (k2.map ah),.list 12 (cy.map aY)])=true:=by simp [LV.pure,aN,a7 ar,a7 bF]
 have oe:LV.pure (.agg [ai d,ai w,ah wd])=true:=aHk d w wd
 have hS0:∀ x:aG,x.p.z=0->ax an 38 [ah x.p.z] (iL 0):=fun x h=>by
  rw [h]
  have:=yu 0 (by have:rl 0=1:=rfl;omega)
  rwa [show cW 0=0 from by decide +kernel] at this
 have hbR:∀ m n:Nat,dA (nmC 42 144 65) [.agg [.agg [ai d,ai w,ah wd],.ref 1 4 0 m,ai n]]=[.agg [.agg [ai d,ai w,ah wd],.ref 144 4 0 m,ai n]]:=fun m n=>by
  simp only [dA,LV.bV,ai,LV.di _ (ah wd) (ar.pure wd)];rfl
 have hnR:∀ m n:Nat,dA (nq 42 65) [.agg [.agg [ai d,ai w,ah wd],.ref 1 4 0 m,ai n]]=[.agg [.agg [ai d,ai w,ah wd],.ref 1001041 4 0 m,ai n]]:=fun m n=>by
  simp only [dA,LV.bV,ai,LV.di _ (ah wd) (ar.pure wd)];rfl
 have hnM:∀ m n:Nat,dA (jm 1001041 144) [.agg [.agg [ai d,ai w,ah wd],.ref 1001041 4 0 m,ai n]]=[.agg [.agg [ai d,ai w,ah wd],.ref 144 4 0 m,ai n]]:=fun m n=>by
  simp only [dA,LV.bV,ai,LV.di _ (ah wd) (ar.pure wd)];rfl
 have hnC:∀ l:List ij,dA (nq 42 65) (l.map fy)=l.map fy:=fun l=>oI _ _ (ac8 _)
 have auG:=fc il 3 CA
 have aqp:=fc il 3 CB
 have kK:nq 42 65 1=1001041:=rfl
 refine aW Tryz.func14 (ht:=(kL (by simp only [LV.pure,ac8]) rfl)) ?_
 refine dH ?_
 refine fG rfl (.cons (.pure oe) .nil) (yt) ?_
 refine aQ ?_
 refine ff (b:=_) rfl (rfl) ?_
 refine aZ ?_
 refine ak rfl (ahh (v0:=.agg [ai d1,.list 3 (k1.map ah),.list 12 (cI.map aY)]) (v1:=.agg [ai d2,.list 3 (k2.map ah),.list 12 (cy.map aY)]) afT mj Z83 lz rfl rfl lz lz adr zP) ?_
 refine aA ?_
 refine bN ?_
 refine aC ?_
 refine cu (b:=_) rfl aj ?_
 refine aC ?_
 first | refine ak rfl (.aaX rfl afT mj rfl rfl aj rfl adr) ?_ | refine ak rfl (.aaX rfl afT mj rfl rfl aj rfl zP) ?_
 refine dH ?_
 refine lR (az.kill _ 9) ?_
 refine dV (fun(i:Nat) L=>(((((((((St.mk L.slot (hp [(3,⟨3,[.agg [ai d1,.list 3 (k1.map ah),.list 12 (cI.map aY)]],true⟩),(4,⟨3,[.agg [ai d2,.list 3 (k2.map ah),.list 12 (cy.map aY)]],true⟩),(5,⟨5,[.agg [ai d,ai w,ah wd]],true⟩)])).put (some 3) (.aD 3 3 0 0)).put (some 4) (.aD 4 3 0 0)).put (some 5) (.aD 5 5 0 0)).put (some 22) (.agg [.agg [ai d1,.list 3 (k1.map ah),.list 12 (cI.map aY)],.agg [ai d2,.list 3 (k2.map ah),.list 12 (cy.map aY)]])).put (some 23) (ai 0)).put (some 27) (.list 12 (cI.map aY))).put (some 28) (ai cI.length)).put (some 29) (ai i))) (fun i=>i<=cI.length) (fun i=>cI.length-i) 0 (b8 _) ?_
 rintro i L2 hi
 refine aC ?_
 refine aH rfl ?_ ?_<;>intro ad8 h30
 ·have dR:i<cI.length:=by omega
  have hSg:=hS0 _ (yG _ (sJ dR))
  refine jI ?_
  refine cp aR (hSg) ?_
  refine aQ ?_
  refine ff (b:=_) rfl (rfl) ?_
  refine aQ ?_
  refine cM (az.kill _ 11) ?_
  refine ak rfl cV ?_
  refine aQ ?_
  exact l5
 ·refine aC ?_
  refine cM (az.kill _ 9) ?_
  refine aA ?_
  refine bN ?_
  refine aC ?_
  refine cu (b:=_) rfl aj ?_
  refine aC ?_
  first | refine ak rfl (.aaX rfl afT mj rfl rfl aj rfl adr) ?_ | refine ak rfl (.aaX rfl afT mj rfl rfl aj rfl zP) ?_
  refine dH ?_
  refine lR (az.kill _ 9) ?_
  refine dV (fun(i:Nat) L=>(((((((((St.mk L.slot (hp [(3,⟨3,[.agg [ai d1,.list 3 (k1.map ah),.list 12 (cI.map aY)]],true⟩),(4,⟨3,[.agg [ai d2,.list 3 (k2.map ah),.list 12 (cy.map aY)]],true⟩),(5,⟨5,[.agg [ai d,ai w,ah wd]],true⟩)])).put (some 3) (.aD 3 3 0 0)).put (some 4) (.aD 4 3 0 0)).put (some 5) (.aD 5 5 0 0)).put (some 22) (.agg [.agg [ai d1,.list 3 (k1.map ah),.list 12 (cI.map aY)],.agg [ai d2,.list 3 (k2.map ah),.list 12 (cy.map aY)]])).put (some 23) (ai 1)).put (some 27) (.list 12 (cy.map aY))).put (some 28) (ai cy.length)).put (some 29) (ai i))) (fun i=>i<=cy.length) (fun i=>cy.length-i) 0 (b8 _) ?_
  rintro i L2 hi
  refine aC ?_
  refine aH rfl ?_ ?_<;>intro ad8 h30
  ·have dR:i<cy.length:=by omega
   have hSg:=hS0 _ (hz2 _ (sJ dR))
   refine jI ?_
   refine cp aR (hSg) ?_
   refine aQ ?_
   refine ff (b:=_) rfl (rfl) ?_
   refine aQ ?_
   refine cM (az.kill _ 11) ?_
   refine ak rfl cV ?_
   refine aQ ?_
   exact l5
  ·refine aC ?_
   refine cM (az.kill _ 9) ?_
   refine aA ?_
   refine bN ?_
   refine aC ?_
   refine ff (b:=_) rfl aj ?_
   refine bo ?_
   refine ak rfl (show aF _ _ _ _ (.agg [.agg [ai d,ai w,ah wd],.v (.slice none 0 0),ai 0]) from .build (zs:=[.agg [.v (.int .i64 0),.v (.int .i64 0),ah 0],.v (.slice none 0 0),.v (.int .i64 0)]) (by simpa [lay,LV.aw,da,LV.isAgg,ar.aw] using atS) Z87 (by simp only [List.forall_mem_cons];exact⟨⟨_,rfl,(show lay (.agg [ai d,ai w,ah wd])=lay (.agg [.v (.int .i64 0),.v (.int .i64 0),ah 0]) by simp [lay,LV.aw,da,LV.isAgg,ar.aw]),nK⟩,fun _ h=>by cases h⟩)) ?_
   refine bo ?_
   refine cp aR (hP1) ?_
   refine bc ?_
   refine lR (az.kill _ 3) ?_
   refine lR (az.kill _ 5) ?_
   refine lR (az.aE5 (b:=42) (d:=144) (csz:=4) aj rfl rfl (fun Z μ w part h=>aJN (d:=144) (c:=4) Z μ w part h)) ?_
   refine ma (fun(i:Nat) (s:oS) L=>((((((St.mk L.slot (hp [(4,⟨3,[.agg [ai d2,.list 3 (k2.map ah),.list 12 (cy.map aY)]],true⟩),(42,⟨7,[.agg [.agg [ai d,ai w,ah wd],.ref 144 4 0 s.2.length,ai s.1]],true⟩),(144,⟨4,s.2.map fy,true⟩)])).put (some 4) (.aD 4 3 0 0)).put (some 12) (.aD 42 7 0 0)).put (some 44) (.list 3 (CA.map dU))).put (some 45) (ai CA.length)).put (some 46) (ai i))) (fun i s=>i<=CA.length/\og d w wd lk dm (CA.drop i) CB s=og d w wd lk dm CA CB (0,[])/\s.1<=4096/\s.2.length<=i*20480) (fun i s=>CA.length-i) 0 (0,[]) ⟨b8 _,rfl,b8 _,b8 _⟩ ?_
   rintro i s L3 ⟨hi,hR,kT,xr⟩
   refine aC ?_
   refine aH rfl ?_ ?_<;>intro afJ h47
   ·have dR:i<CA.length:=by omega
    have hcA:=auE dR
    have aCN:=hD1 _ hcA
    refine aC ?_
    refine ak rfl (.kQ (r:=dU (CA.getD i default)) rfl agC mj rfl ae (atn dR) (il.aw _)) ?_
    try refine aO ?_
    refine ak rfl (.ahY il rfl mj) ?_
    refine av ?_
    try refine aO ?_
    refine bS rfl (.store rfl rfl rfl rfl rfl rfl (ags _ _ (il.aw _).symm (il.isAgg _).symm) (show bE _ _ (dU (CA.getD i default)).aw (dU (CA.getD i default)).isAgg by rw [il.aw,il.isAgg];exact mj) ⟨LV.fp (il.pure _),LV.eW (il.pure _)⟩) ?_
    refine bc ?_
    refine cp aR (hP2) ?_
    refine bc ?_
    refine lR (az.cd (t:=46) (x:=ai i) (y:=ai i) [14] rfl rfl (.pure rfl)) ?_
    refine ma (fun(j:Nat) (r:oS) L=>((((((((((St.mk L.slot (hp [(4,⟨3,[.agg [ai d2,.list 3 (k2.map ah),.list 12 (cy.map aY)]],true⟩),(42,⟨7,[.agg [.agg [ai d,ai w,ah wd],.ref 144 4 0 r.2.length,ai r.1]],true⟩),(144,⟨4,r.2.map fy,true⟩),(14,⟨3,[dU (CA.getD i default)],false⟩)])).put (some 4) (.aD 4 3 0 0)).put (some 12) (.aD 42 7 0 0)).put (some 14) (.aD 14 3 0 0)).put (some 44) (.list 3 (CA.map dU))).put (some 45) (ai CA.length)).put (some 46) (ai i)).put (some 51) (.list 3 (CB.map dU))).put (some 52) (ai CB.length)).put (some 53) (ai j))) (fun j r=>j<=CB.length/\nw d w wd lk dm (CA.getD i default) (CB.drop j) r=nw d w wd lk dm (CA.getD i default) CB s/\r.1<=4096/\r.2.length<=i*20480+j*2048) (fun j r=>CB.length-j) 0 s ⟨b8 _,rfl,kT,ae⟩ ?_
    rintro j r L4 ⟨hj,hQ,fu,qj⟩
    refine aC ?_
    refine aH rfl ?_ ?_<;>intro aAd h54
    ·have jr:j<CB.length:=by omega
     have hcB:=auE jr
     have aIx:=hD2 _ hcB
     have alq:LV.pure (dU (CA.getD i default))=true:=il.pure _
     have ayd:LV.pure (dU (CB.getD j default))=true:=il.pure _
     have hQ2:nw d w wd lk dm (CA.getD i default) (CB.drop (j+1)) (pg d w wd lk dm (CA.getD i default) (CB.getD j default) r)=nw d w wd lk dm (CA.getD i default) CB s:=by rw [<-aCa jr];exact hQ
     obtain⟨hb1,xI⟩:=avq (wd:=wd) (lk:=lk) (dm:=dm) (c:=(CA.getD i default)) (e:=(CB.getD j default)) hd hw fu qj
     have gh:aN ([.cr (dU (CA.getD i default)),.cr (dU (CB.getD j default))]:List LV)=true:=by simp only [aN,LV.pure,alq,ayd,aaz]
     have hcs:∀ x∈([.cr (dU (CA.getD i default)),.cr (dU (CB.getD j default))]:List LV),x.aw=1/\x.isAgg=false:=fun x hx=>by
      simp only [fx,jy,or_false] at hx
      rcases hx with e | e<;>rw [e]<;>exact⟨rfl,rfl⟩
     have aDT:=azq 42 1 2 d w ([.cr (dU (CA.getD i default)),.cr (dU (CB.getD j default))]:List LV) (lk (CA.getD i default) (CB.getD j default)) (I (CA.getD i default) (CB.getD j default)) (hLk _ hcA _ hcB) gh hcs [dm (CA.getD i default)] [dm (CB.getD j default)] rfl aM aM rfl aj (hI0 _ hcA _ hcB) wd hwd r.1 r.2 ae hw fu ae
     refine aC ?_
     refine ak rfl (.kQ (r:=dU (CB.getD j default)) rfl agC mj rfl ae (atn jr) (il.aw _)) ?_
     try refine aO ?_
     refine ak rfl (.ahY il rfl mj) ?_
     refine av ?_
     try refine aO ?_
     refine bS rfl (.store rfl rfl rfl rfl rfl rfl (ags _ _ (il.aw _).symm (il.isAgg _).symm) (show bE _ _ (dU (CB.getD j default)).aw (dU (CB.getD j default)).isAgg by rw [il.aw,il.isAgg];exact mj) ⟨LV.fp (il.pure _),LV.eW (il.pure _)⟩) ?_
     refine aT ?_
     refine azY rfl 8 aq rfl ?_
     simp only [yd,abV]
     refine av ?_
     try refine aO ?_
     refine ak rfl (.gj (b:=14) (sz:=3) (i:=0) (o:=0) (x:=dU (CA.getD i default)) (r:=dU (CA.getD i default)) (n:=3) (ag:=true) rfl rfl rfl rfl (il.aw _) (dZ (il.aw _) (il.isAgg _)) mj) ?_
     refine cp aR (aCN) ?_
     try refine aO ?_
     refine fL rfl rfl (.anZ (a:=dm (CA.getD i default)) (z:=(0,0)) ck rf abK oA rfl aj aj) ?_
     try refine aO ?_
     refine ak rfl (.gj (b:=16) (sz:=3) (i:=0) (o:=0) (x:=dU (CB.getD j default)) (r:=dU (CB.getD j default)) (n:=3) (ag:=true) rfl rfl rfl rfl (il.aw _) (dZ (il.aw _) (il.isAgg _)) mj) ?_
     refine cp aR (aIx) ?_
     try refine aO ?_
     refine fL rfl rfl (.anZ (a:=dm (CB.getD j default)) (z:=(0,0)) ck rf abK oA rfl aj aj) ?_
     try refine aO ?_
     refine oD [14,16,60,63] rfl rfl (.mk (caps:=([.cr (dU (CA.getD i default)),.cr (dU (CB.getD j default))]:List LV)) (.cons (.aD rfl rfl rfl (il.aw _) (dZ (il.aw _) (il.isAgg _)) alq rfl) (.cons (.aD rfl rfl rfl (il.aw _) (dZ (il.aw _) (il.isAgg _)) ayd rfl) .nil)) hcs) rfl ?_
     try refine aO ?_
     refine aCt rfl (art (f:=40) (b:=42) (c:=144) (sz:=7) (csz:=4) (vals:=[.agg [.agg [ai d,ai w,ah wd],.ref 1 4 0 r.2.length,ai r.1]]) (cvals:=r.2.map fy) 65 rfl aj aj (by rw [hbR];rfl) (by rw [oI _ _ (ac8 _)];rfl) (.cons (.bV (y:=.aD 0 7 0 0) ⟨by simp,by simp⟩) (.cons (.cF (.ref (blk:=⟨6,[aE (dm (CA.getD i default))],false⟩) rfl rfl (by simp [aN,ck.pure]) aM rfl)) (.cons (.cF (.ref (blk:=⟨6,[aE (dm (CB.getD j default))],false⟩) rfl rfl (by simp [aN,ck.pure]) aM rfl)) (.cons (.cF (.pure (show LV.pure (.dq 42 ([.cr (dU (CA.getD i default)),.cr (dU (CB.getD j default))]:List LV))=true by simpa [LV.pure] using gh))) .nil)))) .ptr aDT aM (fun k hk=>azw (by intro x hx;simp only [nZ,yT,fx,jy,or_false] at hx;unfold eE;omega))) ?_
     simp only [ur,kK,hnR,hnC]
     refine aO ?_
     refine aT ?_
     refine aqr (((az.kill _ 16).trans (az.kill _ 60)).trans (az.kill _ 63)) ?_
     try refine aO ?_
     refine aqr (aGN oe (by simp only [aN,zP,aaz]) (by simp only [aN,alq,aaz]) rfl) ?_
     try refine aO ?_
     refine av ?_
     refine ak rfl cV ?_
     refine aQ ?_
     exact jh (j+1) (pg d w wd lk dm (CA.getD i default) (CB.getD j default) r) ⟨ae,hQ2,hb1,ae⟩ (he:=az.of_eq (al (al (al (al (al (al (al (al (al (bK (by first | exact cl | (refine aO ?_;refine jG ?_ ?_<;>repeat (first | exact trivial | refine jN rfl ?_)))) cl) cl) cl) (show LV.bV (jm 1001041 144) (LV.kill 144 (LV.list 3 (CA.map dU)))=LV.list 3 (CA.map dU) from by rw [LV.mr _ _ auG,LV.di _ _ auG])) cl) cl) (show LV.bV (jm 1001041 144) (LV.kill 144 (LV.list 3 (CB.map dU)))=LV.list 3 (CB.map dU) from by rw [LV.mr _ _ aqp,LV.di _ _ aqp])) cl) cl))
    ·obtain rfl:CB.length=j:=by omega
     have hr3:r=nw d w wd lk dm (CA.getD i default) CB s:=by rw [<-hQ,aeo];rfl
     have hR2:og d w wd lk dm (CA.drop (i+1)) CB r=og d w wd lk dm CA CB (0,[]):=by rw [hr3,<-aJc dR];exact hR
     refine aC ?_
     refine cM (az.kill _ 14) ?_
     refine ak rfl cV ?_
     refine aQ ?_
     exact jh (i+1) r ⟨ae,hR2,fu,ae⟩
   ·obtain rfl:CA.length=i:=by omega
    have hR3:s=og d w wd lk dm CA CB (0,[]):=by rw [<-hR,aeo];rfl
    refine oF ?_
    subst hR3
    exact ake [144] rfl rfl (fI (l:=(og d w wd lk dm CA CB (0,[])).2) aay rfl rfl rfl) rfl (.pure rfl)
end
theorem aIo {P:Program} {H:bW} {ρ:Operand->LV} {T:TypeId} [z:ZI P T (.agg [.agg [a5 ⟨0,0,0⟩,a5 ⟨0,0,0⟩,a5 ⟨0,0,0⟩],a5 ⟨0,0,0⟩])] [s:SI P T [(27,true),(9,true)]] :
  aF P H ρ (.build T #[]) (eG ⟨⟨0,0,0⟩,⟨0,0,0⟩,⟨0,0,0⟩,⟨0,0,0⟩⟩):=by
 have:=aF.bd (H:=H) (ρ:=ρ) (ps:=#[]) (z:=z) (s:=s) (by simp [lay,LV.aw,da,bl.aw,bl.isAgg,ud]) (by
  intro q hq
  simp at hq)
 simp only [kh,tF,tW] at this
 exact this
def M30:M3:=⟨⟨0,0,0⟩,⟨0,0,0⟩,⟨0,0,0⟩,⟨0,0,0⟩⟩
def vlM (m:M3):Rat:=b9 m.a (ia m.b m.c)
def nr (m:M3):M3:=if vlM m=0 then M30 else ivM m
def ivE (m:M3):Int:=if vlM m=0 then 9 else 0
open afY in
theorem aED (m:M3) (R:Nat) (hR:R<=40000000) (hm:tH R m) (hv:b9 m.a (ia m.b m.c)=0):ax an 108 [eG m] (.bf [eG M30,iL 9]):=by
 have iB:=hm
 obtain⟨jY,fe,qV,oH⟩:=hm
 have iO:=aaF fe qV
 have hV:=aub m R ae iB
 have fu:rl 1=1:=rfl
 have hrv:=acS jY iO
 have hQ:ax an 169 [ah 1,ah (b9 m.a (ia m.b m.c))] (.bf [ah (gX m.a m.b m.c),iL 3]):=by
  have:=wY 1 (b9 m.a (ia m.b m.c)) ae
  rwa [if_pos hv] at this
 have uW:ax an 107 [iL 1] (ah 1):=xx 1 aj aj
 refine aW apD (ht:=(kL (dS.pure _) rfl)) ?_
 refine bo ?_
 refine iC 8 [6] aq ?_
 refine cp aR (uW) ?_
 refine ak rfl ain ?_
 refine fG rfl (.cons (.pure (dS.pure m)) .nil) hV ?_
 refine cp au (hQ) ?_
 refine iE ?_
 refine cu (b:=_) rfl (rfl) ?_
 refine aT ?_
 refine ak rfl aIo ?_
 refine bS rfl (.stE (e:=eG) (l:=[⟨⟨0,0,0⟩,⟨0,0,0⟩,⟨0,0,0⟩,⟨0,0,0⟩⟩]) (a:=M30) rfl rfl rfl aM) ?_
 refine bc ?_
 exact vW [] rfl rfl rfl (dS.aw M30) (dZ (dS.aw M30) rfl) wb (.pure (dS.pure M30)) rfl (.pure rfl)
theorem aD6 (m:M3) (R:Nat) (hR:R<=40000000) (hm:tH R m):ax an 108 [eG m] (.bf [eG (nr m),iL (ivE m)]):=by
 by_cases hv:vlM m=0
 ·unfold nr ivE
  rw [if_pos hv,if_pos hv]
  exact aED m R hR hm hv
 ·unfold nr ivE
  rw [if_neg hv,if_neg hv]
  exact aIZ m R hR hm hv
theorem adn (n:Nat):(ai n).pure=true:=rfl
theorem aKk {m:M3} {R:Nat} (hm:tH R m):cJ (24*R+40) (nr m).a/\cJ (24*R+40) (nr m).b:=by
 have uv:rl 0=1:=rfl
 have fu:rl 1=1:=rfl
 unfold nr
 split
 ·exact⟨⟨by show rl 0<=_;omega,by show rl 0<=_;omega,by show rl 0<=_;omega⟩,⟨by show rl 0<=_;omega,by show rl 0<=_;omega,by show rl 0<=_;omega⟩⟩
 ·obtain⟨jY,fe,qV,oH⟩:=hm
  have iO:=aaF fe qV
  have fh:=aaF qV jY
  have pK:=aaF jY fe
  have hrv:=acS jY iO
  have hrf:rl (gX m.a m.b m.c)<=20*R+30:=by
   have:=tA 1 (b9 m.a (ia m.b m.c))
   unfold gX
   omega
  have pF:∀ q:V3,cJ (4*R+5) q->cJ (24*R+40) (jC (gX m.a m.b m.c) q):=fun q ⟨oL,tG,q3'⟩=>by
   have e1x:=df (gX m.a m.b m.c) q.x
   have e2x:=df (gX m.a m.b m.c) q.y
   have e3x:=df (gX m.a m.b m.c) q.z
   exact⟨by show rl (gX m.a m.b m.c*q.x)<=_;omega,by show rl (gX m.a m.b m.c*q.y)<=_;omega,by show rl (gX m.a m.b m.c*q.z)<=_;omega⟩
  exact⟨⟨(pF _ iO).1,(pF _ fh).1,(pF _ pK).1⟩,⟨(pF _ iO).2.1,(pF _ fh).2.1,(pF _ pK).2.1⟩⟩
theorem aEU {u v:V3} {R:Nat} (hu:cJ R u) (hv:cJ R v):tH (R+1) (lQ u v):=by
 have e0:rl (-1)=1:=by decide +kernel
 have uv:rl 0=1:=rfl
 have fu:rl 1=1:=rfl
 have e5:=df (-1) v.x
 have e6:=df (-1) v.y
 obtain⟨u1,u2,u3⟩:=hu
 obtain⟨v1,v2,v3⟩:=hv
 exact⟨⟨by show rl u.x<=_;omega,by show rl (-1*v.x)<=_;omega,by show rl 0<=_;omega⟩,⟨by show rl u.y<=_;omega,by show rl (-1*v.y)<=_;omega,by show rl 0<=_;omega⟩,⟨by show rl 0<=_;omega,by show rl 0<=_;omega,by show rl 1<=_;omega⟩,⟨by show rl 0<=_;omega,by show rl 0<=_;omega,by show rl 0<=_;omega⟩⟩
theorem abA {l:List aG} {i:Nat} (h:i<l.length):(l.map aG.p).getD i default=(l.getD i default).p:=by
 rw [bp,g8,bp,b7 h];rfl
open afY in
theorem aA0 (d1 d2:Nat) (k1 k2:List Rat) (cI cy:List aG) (S T:oP) (RS:Nat) (hRS:RS<=20000000) (hSb:qh RS S) (hTb:qh RS T) (s t:Sp) (x y:Rat) (u v:V3) (R:Nat) (hR:R<=3700000) (hub:cJ R u) (hvb:cJ R v) (hlA:0<cI.length) (hlB:0<cy.length) (aHv:cI.length<=1000) (aJP:cy.length<=1000) (ahl:∀ q∈(cI.map aG.p),cJ 90000000 q) (ahP:∀ q∈(cy.map aG.p),cJ 90000000 q) (hS1:ax an 100 [.agg [ai d1,.list 3 (k1.map ah),.list 12 (cI.map aY)]] (oc S)) (hS2:ax an 100 [.agg [ai d2,.list 3 (k2.map ah),.list 12 (cy.map aY)]] (oc T)) (hD1:ax an 41 [.agg [ai d1,.list 3 (k1.map ah),.list 12 (cI.map aY)]] (aE s)) (hD2:ax an 41 [.agg [ai d2,.list 3 (k2.map ah),.list 12 (cy.map aY)]] (aE t)) (hM1:ax an 105 [aE s] (ah x)) (hM2:ax an 105 [aE t] (ah y)) (hT1:ax an 104 [.agg [ai d1,.list 3 (k1.map ah),.list 12 (cI.map aY)],ah x] (.bf [a5 u,iL 0])) (hT2:ax an 104 [.agg [ai d2,.list 3 (k2.map ah),.list 12 (cy.map aY)],ah y] (.bf [a5 v,iL 0])) (hE1:ax an 111 [.agg [ai d1,.list 3 (k1.map ah),.list 12 (cI.map aY)]] (.bf [a5 (cI.getD 0 default).p,a5 (cI.getD (cI.length-1) default).p])) (hE2:ax an 111 [.agg [ai d2,.list 3 (k2.map ah),.list 12 (cy.map aY)]] (.bf [a5 (cy.getD 0 default).p,a5 (cy.getD (cy.length-1) default).p])):ax an 46 [.agg [ai d1,.list 3 (k1.map ah),.list 12 (cI.map aY)],.agg [ai d2,.list 3 (k2.map ah),.list 12 (cy.map aY)]] (ai (jQ S T u v (cI.map aG.p) (cy.map aG.p))):=by
 have adr:LV.pure (.agg [ai d1,.list 3 (k1.map ah),.list 12 (cI.map aY)])=true:=by simp [LV.pure,aN,a7 ar,a7 bF]
 have zP:LV.pure (.agg [ai d2,.list 3 (k2.map ah),.list 12 (cy.map aY)])=true:=by simp [LV.pure,aN,a7 ar,a7 bF]
 have hpD:LV.pure (.agg [.agg [aE S.x,aE (fJ T.x)],.agg [aE S.y,aE (fJ T.y)]])=true:=by simp only [LV.pure,aN,ck.pure,aaz]
 have gO:∀ l1 l2:List V3,LV.pure (.agg [.list 9 (l1.map a5),.list 9 (l2.map a5)])=true:=fun l1 l2=>by simp only [LV.pure,aN,a7 bl,aaz]
 have avW:=avH hTb.1
 have apU:=avH hTb.2.1
 have rp:dC (4*RS+1) (wx S.x (fJ T.x) S.y (fJ T.y)):=aD2 hSb.1 avW hSb.2.1 apU
 have uW:ax an 107 [iL 1] (ah 1):=xx 1 aj aj
 have h1m:ax an 107 [iL (-1)] (ah (-1)):=by
  have:=xx (-1) aj aj
  rwa [show (((-1:Int)):Rat)=-1 from by decide +kernel] at this
 have uH:=aEU hub hvb
 have hSc:=aeU (-1) v (R+1) ae (by have:rl (-1)=1:=aq;omega) (hvb.le ae)
 have aBD:=aD6 (lQ u v) (R+1) ae uH
 have hiv:=aKk uH
 have aJQ:cJ 90000000 (nr (lQ u v)).a:=hiv.1.le ae
 have aFa:cJ 90000000 (nr (lQ u v)).b:=hiv.2.le ae
 have hP1:ax an 110 [.list 12 (cI.map aY)] (.list 9 ((cI.map aG.p).map a5)):=axP cI hlA aHv
 have hP2:ax an 110 [.list 12 (cy.map aY)] (.list 9 ((cy.map aG.p).map a5)):=axP cy hlB aJP
 have mm:∀ (l:List aG) (i:Nat),i<l.length->(∀ q∈l.map aG.p,cJ 90000000 q)->cJ 90000000 (l.getD i default).p:=fun l i hi h=>h _ (cQ.2 ⟨_,sJ hi,rfl⟩)
 have aBm:∀ q∈[(cI.getD 0 default).p],cJ 90000000 q:=fun q hq=>by rw [gS.1 hq];exact mm cI 0 hlA ahl
 have aEN:∀ q∈[(cI.getD (cI.length-1) default).p],cJ 90000000 q:=fun q hq=>by rw [gS.1 hq];exact mm cI _ ae ahl
 have azx:∀ q∈[(cy.getD 0 default).p],cJ 90000000 q:=fun q hq=>by rw [gS.1 hq];exact mm cy 0 hlB ahP
 have aEV:∀ q∈[(cy.getD (cy.length-1) default).p],cJ 90000000 q:=fun q hq=>by rw [gS.1 hq];exact mm cy _ ae ahP
 have nv:jX (wx S.x (fJ T.x) S.y (fJ T.y)) 0=false->vlM (lQ u v)≠0->(jQ S T u v (cI.map aG.p) (cy.map aG.p))=if (uB (iK (nr (lQ u v)).a [(cI.getD 0 default).p] (cy.map aG.p)) (iK (nr (lQ u v)).a [(cI.getD (cI.length-1) default).p] (cy.map aG.p))) && (uB (iK (nr (lQ u v)).b (cI.map aG.p) [(cy.getD 0 default).p]) (iK (nr (lQ u v)).b (cI.map aG.p) [(cy.getD (cy.length-1) default).p])) then 3 else 2:=fun h1 h2=>by
  have hg:nr (lQ u v)=ivM (lQ u v):=if_neg h2
  unfold jQ
  rw [if_neg (by rw [h1];decide),if_neg (show ¬b9 (mV u v) (ia (mR u v) mF)=0 from h2),hg]
  unfold aa6 abv
  rw [abA hlA,abA hlB,dL,dL,abA (show cI.length-1<cI.length by omega),abA (show cy.length-1<cy.length by omega)]
  rfl
 refine aW Tryz.func46 (ht:=(fun g=>LV.di g _ (adn _))) ?_
 refine bo ?_
 refine a9 6 aq ?_
 refine av ?_
 refine cp aR (hS1) ?_
 refine av ?_
 refine cp aR (hS2) ?_
 refine aZ ?_
 refine a9 15 aq ?_
 refine aA ?_
 refine cp aR (arZ T.x RS ae hTb.1) ?_
 refine ak rfl (ahh (v0:=aE S.x) (v1:=aE (fJ T.x)) ae5 oA au9 lz rfl rfl lz lz (ck.pure _) (ck.pure _)) ?_
 refine aA ?_
 refine cp aR (arZ T.y RS ae hTb.2.1) ?_
 refine ak rfl (ahh (v0:=aE S.y) (v1:=aE (fJ T.y)) ae5 oA au9 lz rfl rfl lz lz (ck.pure _) (ck.pure _)) ?_
 refine ak rfl (ahh (v0:=.agg [aE S.x,aE (fJ T.x)]) (v1:=.agg [aE S.y,aE (fJ T.y)]) Tryz.underlying170 ata aCc lz rfl rfl lz lz pu pu) ?_
 refine fG rfl (.cons (.pure hpD) .nil) (aC6 S.x (fJ T.x) S.y (fJ T.y) RS ae hSb.1 avW hSb.2.1 apU) ?_
 refine bD ?_
 refine cp au (ajw (wx S.x (fJ T.x) S.y (fJ T.y)) 0 (by have:=rp.1;have:rl 0=1:=rfl;omega) (by have:=rp.2;have:rl 0=1:=rfl;omega)) ?_
 refine aT ?_
 refine aH rfl ?_ ?_<;>intro adM h41
 ·have hkz:(jQ S T u v (cI.map aG.p) (cy.map aG.p))=0:=if_pos h41
  refine aZ ?_
  refine dT (x:=ai (jQ S T u v (cI.map aG.p) (cy.map aG.p))) ?_ ?_
  ·first | rw [hkz] | rw [sF.trans (if_neg agb)]
   rfl
  ·exact .pure (adn _)
 ·have nI:jX (wx S.x (fJ T.x) S.y (fJ T.y)) 0=false:=by simpa using h41
  refine aQ ?_
  refine iC 9 [7] aq ?_
  refine aT ?_
  refine cp aR (hD1) ?_
  refine cp aR (hM1) ?_
  refine cp au (hT1) ?_
  refine bD ?_
  refine iC 9 [7] aq ?_
  refine aT ?_
  refine cp aR (hD2) ?_
  refine cp aR (hM2) ?_
  refine cp au (hT2) ?_
  refine bD ?_
  refine a9 3 aq ?_
  refine cp aR (h1m) ?_
  refine av ?_
  refine cp au (hSc) ?_
  refine aA ?_
  refine iC 19 [17] aq ?_
  refine aA ?_
  refine rG (ajK rfl rfl) ?_
  refine aA ?_
  refine rG (ajK rfl rfl) ?_
  refine cp aR (uW) ?_
  refine rG (aEJ rfl) ?_
  refine ak rfl (alx rfl rfl rfl) ?_
  refine ak rfl (amJ (a:=mV u v) (b:=mR u v) (c:=mF) rfl) ?_
  refine fG rfl (.cons (.pure (dS.pure (lQ u v))) .nil) aBD ?_
  refine aA ?_
  refine bS rfl (.stE (e:=eG) (l:=[⟨⟨0,0,0⟩,⟨0,0,0⟩,⟨0,0,0⟩,⟨0,0,0⟩⟩]) (a:=nr (lQ u v)) rfl rfl rfl aM) ?_
  refine bM ?_
  refine aH rfl ?_ ?_<;>intro aLz h80
  ·have hvz:vlM (lQ u v)=0:=by
    refine aBr fun e=>?_
    rw [show ivE (lQ u v)=0 from if_neg e] at h80
    simp at h80
   have hkz:(jQ S T u v (cI.map aG.p) (cy.map aG.p))=2:=by
    unfold jQ
    rw [if_neg (by rw [nI];decide),if_pos (show b9 (mV u v) (ia (mR u v) mF)=0 from hvz)]
   refine aZ ?_
   refine dT (x:=ai (jQ S T u v (cI.map aG.p) (cy.map aG.p))) ?_ ?_
   ·first | rw [hkz] | rw [sF.trans (if_neg agb)]
    rfl
   ·exact .pure (adn _)
  ·have hvn:vlM (lQ u v)≠0:=fun e=>by
    rw [show ivE (lQ u v)=9 from if_pos e] at h80
    simp at h80
   have sF:=nv nI hvn
   refine bo ?_
   refine a9 8 aq ?_
   refine aT ?_
   refine cp aR (hP1) ?_
   refine aT ?_
   refine cp aR (hP2) ?_
   refine aZ ?_
   refine cp aR (hE1) ?_
   refine bM ?_
   refine a9 15 aq ?_
   refine aT ?_
   refine ak rfl (.gj rfl rfl rfl rfl (dS.aw _) (agk _) ju) ?_
   refine aT ?_
   refine oD [] rfl rfl (.dq (f:=109) (cap:=[]) (args:=[a5 (cI.getD 0 default).p]) rfl (.cons (.pure (bl.pure _)) .nil) ⟨rfl,by simp⟩ (aaV (cI.getD 0 default).p).1 aj (fun _ h=>by cases h)) ((aaV (cI.getD 0 default).p).2 _) ?_
   refine aA ?_
   refine oD [] rfl rfl (.dq (f:=109) (cap:=[]) (args:=[a5 (cI.getD (cI.length-1) default).p]) rfl (.cons (.pure (bl.pure _)) .nil) ⟨rfl,by simp⟩ (aaV (cI.getD (cI.length-1) default).p).1 aj (fun _ h=>by cases h)) ((aaV (cI.getD (cI.length-1) default).p).2 _) ?_
   refine aT ?_
   refine fG rfl (.cons (.pure (bl.pure _)) (.cons (.pure (gO [(cI.getD 0 default).p] (cy.map aG.p))) (.cons (.pure (gO [(cI.getD (cI.length-1) default).p] (cy.map aG.p))) .nil))) (auT (nr (lQ u v)).a 90000000 ae aJQ [(cI.getD 0 default).p] (cy.map aG.p) [(cI.getD (cI.length-1) default).p] (cy.map aG.p) aM aM aBm kR kR ahP aM aM aEN kR kR ahP) ?_
   refine aC ?_
   refine cp aR (hE2) ?_
   refine bo ?_
   refine a9 15 aq ?_
   refine aT ?_
   refine ak rfl (.gj rfl rfl rfl rfl (dS.aw _) (afH _) ju) ?_
   refine aQ ?_
   refine oD [] rfl rfl (.dq (f:=109) (cap:=[]) (args:=[a5 (cy.getD 0 default).p]) rfl (.cons (.pure (bl.pure _)) .nil) ⟨rfl,by simp⟩ (aaV (cy.getD 0 default).p).1 aj (fun _ h=>by cases h)) ((aaV (cy.getD 0 default).p).2 _) ?_
   refine aA ?_
   refine oD [] rfl rfl (.dq (f:=109) (cap:=[]) (args:=[a5 (cy.getD (cy.length-1) default).p]) rfl (.cons (.pure (bl.pure _)) .nil) ⟨rfl,by simp⟩ (aaV (cy.getD (cy.length-1) default).p).1 aj (fun _ h=>by cases h)) ((aaV (cy.getD (cy.length-1) default).p).2 _) ?_
   refine av ?_
   refine fG rfl (.cons (.pure (bl.pure _)) (.cons (.pure (gO (cI.map aG.p) [(cy.getD 0 default).p])) (.cons (.pure (gO (cI.map aG.p) [(cy.getD (cy.length-1) default).p])) .nil))) (auT (nr (lQ u v)).b 90000000 ae aFa (cI.map aG.p) [(cy.getD 0 default).p] (cI.map aG.p) [(cy.getD (cy.length-1) default).p] kR kR ahl aM aM azx kR kR ahl aM aM aEV) ?_
   refine bo ?_
   refine ez 126 rfl ?_ ?_<;>intro aK5 axU
   ·refine aA ?_
    refine aH rfl ?_ ?_<;>intro aLO aoz
    ·have hkz:(jQ S T u v (cI.map aG.p) (cy.map aG.p))=3:=sF.trans (if_pos (by rw [show (uB (iK (nr (lQ u v)).a [(cI.getD 0 default).p] (cy.map aG.p)) (iK (nr (lQ u v)).a [(cI.getD (cI.length-1) default).p] (cy.map aG.p)))=true from axU,show (uB (iK (nr (lQ u v)).b (cI.map aG.p) [(cy.getD 0 default).p]) (iK (nr (lQ u v)).b (cI.map aG.p) [(cy.getD (cy.length-1) default).p]))=true from aoz];rfl))
     refine aZ ?_
     refine dT (x:=ai (jQ S T u v (cI.map aG.p) (cy.map aG.p))) ?_ ?_
     ·first | rw [hkz] | rw [sF.trans (if_neg agb)]
      rfl
     ·exact .pure (adn _)
    ·have hkz:(jQ S T u v (cI.map aG.p) (cy.map aG.p))=2:=sF.trans (if_neg (by rw [show (uB (iK (nr (lQ u v)).b (cI.map aG.p) [(cy.getD 0 default).p]) (iK (nr (lQ u v)).b (cI.map aG.p) [(cy.getD (cy.length-1) default).p]))=false from aoz];simp))
     refine bo ?_
     refine dT (x:=ai (jQ S T u v (cI.map aG.p) (cy.map aG.p))) ?_ ?_
     ·first | rw [hkz] | rw [sF.trans (if_neg agb)]
      rfl
     ·exact .pure (adn _)
   ·refine dH ?_
    refine dT (x:=ai (jQ S T u v (cI.map aG.p) (cy.map aG.p))) ?_ ?_
    ·first | rw [hkz] | rw [sF.trans (if_neg agb)]
     rfl
    ·exact .pure (adn _)
def rZ (X Y:oP) (K:Nat):Bool × Nat × Nat:=if meB X Y then(false,K,0) else(true,0,0)
open yV in
theorem aEs (e1 e2:Nat) (k1 k2 k3 k4:List Rat) (cI cy jW poD:List aG) (s t:Sp) (X Y:oP) (R:Nat) (hR:R<=1000000) (hbX:qh R X) (hbY:qh R Y) (K:Nat) (hU1:ax an 43 [.agg [ai e1,.list 3 (k1.map ah),.list 12 (cI.map aY)],ah s.1,ah s.2] (.bf [.agg [ai e1,.list 3 (k3.map ah),.list 12 (jW.map aY)],iL 0])) (hU2:ax an 43 [.agg [ai e2,.list 3 (k2.map ah),.list 12 (cy.map aY)],ah t.1,ah t.2] (.bf [.agg [ai e2,.list 3 (k4.map ah),.list 12 (poD.map aY)],iL 0])) (hX1:ax an 45 [.agg [ai e1,.list 3 (k3.map ah),.list 12 (jW.map aY)]] (oc X)) (hX2:ax an 45 [.agg [ai e2,.list 3 (k4.map ah),.list 12 (poD.map aY)]] (oc Y)) (hKi:ax an 46 [.agg [ai e1,.list 3 (k3.map ah),.list 12 (jW.map aY)],.agg [ai e2,.list 3 (k4.map ah),.list 12 (poD.map aY)]] (ai K)):ax an 42 [.list 6 ([s].map aE),.list 6 ([t].map aE),.cr (.agg [ai e1,.list 3 (k1.map ah),.list 12 (cI.map aY)]),.cr (.agg [ai e2,.list 3 (k2.map ah),.list 12 (cy.map aY)])] (vdL (rZ X Y K)):=by
 have hus:aE s=.agg [ah s.1,ah s.2]:=by unfold aE;rfl
 have hut:aE t=.agg [ah t.1,ah t.2]:=by unfold aE;rfl
 have adr:LV.pure (.agg [ai e1,.list 3 (k1.map ah),.list 12 (cI.map aY)])=true:=by simp [LV.pure,aN,a7 ar,a7 bF]
 have zP:LV.pure (.agg [ai e2,.list 3 (k2.map ah),.list 12 (cy.map aY)])=true:=by simp [LV.pure,aN,a7 ar,a7 bF]
 have aLP:LV.pure (.agg [ai e1,.list 3 (k3.map ah),.list 12 (jW.map aY)])=true:=by simp [LV.pure,aN,a7 ar,a7 bF]
 have ak5:LV.pure (.agg [ai e2,.list 3 (k4.map ah),.list 12 (poD.map aY)])=true:=by simp [LV.pure,aN,a7 ar,a7 bF]
 have hMB:=aAC X Y R ae hbX hbY
 refine aW Tryz.func42 (ht:=(fun g=>LV.di g _ (aA6 _))) ?_
 refine aC ?_
 refine iC 14 [12] aq ?_
 refine ak rfl (.z5 rfl mj adr) ?_
 refine av ?_
 refine ak rfl (.kQ (n:=0) (r:=.agg [ah s.1,ah s.2]) rfl rf oA rfl aj (by show some (aE s)=_;rw [hus]) (by rw [<-hus];exact ck.aw _)) ?_
 refine aQ ?_
 refine ak rfl (.kQ (n:=0) (r:=.agg [ah s.1,ah s.2]) rfl rf oA rfl aj (by show some (aE s)=_;rw [hus]) (by rw [<-hus];exact ck.aw _)) ?_
 refine aT ?_
 refine cp ig (hU1) ?_
 refine bD ?_
 refine iC 14 [12] aq ?_
 refine ak rfl (.z5 rfl mj zP) ?_
 refine av ?_
 refine ak rfl (.kQ (n:=0) (r:=.agg [ah t.1,ah t.2]) rfl rf oA rfl aj (by show some (aE t)=_;rw [hut]) (by rw [<-hut];exact ck.aw _)) ?_
 refine aQ ?_
 refine ak rfl (.kQ (n:=0) (r:=.agg [ah t.1,ah t.2]) rfl rf oA rfl aj (by show some (aE t)=_;rw [hut]) (by rw [<-hut];exact ck.aw _)) ?_
 refine aT ?_
 refine cp ig (hU2) ?_
 refine bM ?_
 refine a9 6 aq ?_
 refine av ?_
 refine cp aR (hX1) ?_
 refine av ?_
 refine cp aR (hX2) ?_
 refine fG rfl (.cons (.pure (zM.pure _)) (.cons (.pure (zM.pure _)) .nil)) hMB ?_
 refine aQ ?_
 refine aH rfl ?_ ?_<;>intro aHt h42
 ·have hv:(rZ X Y K)=(true,0,0):=if_neg (by simpa using h42)
  refine bo ?_
  exact iG [] rfl rfl rfl cs (dZ cs rfl) T92 (by rw [hv];exact .pure pu)
 ·have hv:(rZ X Y K)=(false,K,0):=if_pos (by simpa using h42)
  refine aC ?_
  refine cp au (hKi) ?_
  refine bc ?_
  exact iG [] rfl rfl rfl cs (dZ cs rfl) T92 (by rw [hv];exact .pure pu)
def bn (a b:Rat) (s:Sp):Sp:=(a+(b-a)*s.1,a+(b-a)*s.2)
theorem amH (x:Rat):x/2*2=x:=kf aj
theorem ama (a b:Rat) (s:Sp):kX (bn a b s)=a+(b-a)*kX s:=by
 have h1:=amH (s.1+s.2)
 have h2:=amH (a+(b-a)*s.1+(a+(b-a)*s.2))
 show (a+(b-a)*s.1+(a+(b-a)*s.2))/2=a+(b-a)*((s.1+s.2)/2)
 grind
theorem atZ (a b:Rat) (s:Sp):rT (bn a b s)=bn a b (rT s):=by
 have:=ama a b s
 unfold rT
 rw [this];rfl
theorem ayM (a b:Rat) (s:Sp):sP (bn a b s)=bn a b (sP s):=by
 have:=ama a b s
 unfold sP
 rw [this];rfl
theorem aqn (a b:Rat):bn a b sG=(a,b):=by
 show (a+(b-a)*0,a+(b-a)*1)=(a,b)
 rw [show a+(b-a)*0=a by grind,show a+(b-a)*1=b by grind]
theorem abF {a b:Rat} (h:a<b) (x:Rat):(a+(b-a)*x-a)/(b-a)=x:=by
 have hn:b-a≠0:=by grind
 rw [show a+(b-a)*x-a=x*(b-a) by grind,vO hn]
theorem y7 {a b x y:Rat} (h:a<b) (hx:x<y):a+(b-a)*x<a+(b-a)*y:=by
 have h1:0<b-a:=by grind
 have h2:0<y-x:=by grind
 have:=aak h1 h2
 grind
theorem ao1 {a b x y:Rat} (h:a<b) (hx:x<=y):a+(b-a)*x<=a+(b-a)*y:=by
 have h1:0<=b-a:=by grind
 have h2:0<=y-x:=by grind
 have:=iN h1 h2
 grind
theorem adv {a b x:Rat} (h:a<b) (h0:0<=x) (h1:x<=1):a<=a+(b-a)*x/\a+(b-a)*x<=b:=by
 have e1:=ao1 h h0
 have e2:=ao1 h h1
 constructor<;>grind
theorem sH {a b x:Rat} {A:Nat} (ha:Go.Lg.rl a<=A) (hb:Go.Lg.rl b<=A) (hx:Go.Lg.rl x<=1):Go.Lg.rl (a+(b-a)*x)<=3*A+5:=by
 have h1:=jF b a
 have h2:=df (b-a) x
 have h3:=lN a ((b-a)*x)
 omega
def wI (D:Nat) (a b c d:Rat) (x:fN):Prop:=∃ (s t:Sp) (i j:Int),x.1=[bn a b s,bn c d t]/\x.2.2=[i,j]/\(0<=i/\i<=x.2.1/\0<=j/\j<=x.2.1)/\x.2.1<=D/\kZ x.2.1 s/\kZ x.2.1 t
theorem anP (D:Nat) (a b c d:Rat):wI D a b c d ([(a,b)]++[(c,d)],0,ay 2 0):=by
 have h0:lb 0 (0:Rat):=ayL 0
 have h1:lb 0 (1:Rat):=ayL 1
 refine⟨sG,sG,0,0,?_,rfl,⟨ag3 _,ag3 _,ag3 _,ag3 _⟩,b8 _,⟨h0,h1,by decide +kernel,by decide +kernel,by decide +kernel⟩,⟨h0,h1,by decide +kernel,by decide +kernel,by decide +kernel⟩⟩
 rw [aqn,aqn];rfl
theorem alh {D:Nat} {a b c d:Rat} {x:fN} (h:wI D a b c d x) (hd:x.2.1<D):wI D a b c d (qg x)/\wI D a b c d (qL x):=by
 obtain⟨s,t,i,j,e,f,⟨i1,i2,j1,j2⟩,_,hs,ht⟩:=h
 have ha:gQ x=0\/gQ x=1:=by
  have:=afy (t:=x.2.2) x.2.2.length (bq _) (by rw [f];exact Nat.succ_pos _)
  have hl:x.2.2.length=2:=by rw [f];rfl
  unfold gQ;omega
 unfold qg qL acJ
 rcases ha with g | g
 ·rw [g,e,f]
  exact⟨⟨rT s,t,i+1,j,by rw [<-atZ];rfl,rfl,⟨ae,by show i+1<=((x.2.1+1:Nat):Int);omega,j1,by show j<=((x.2.1+1:Nat):Int);omega⟩,hd,hs.half.1,ht.succ⟩,
   ⟨sP s,t,i+1,j,by rw [<-ayM];rfl,rfl,⟨ae,by show i+1<=((x.2.1+1:Nat):Int);omega,j1,by show j<=((x.2.1+1:Nat):Int);omega⟩,hd,hs.half.2,ht.succ⟩⟩
 ·rw [g,e,f]
  exact⟨⟨s,rT t,i,j+1,by rw [<-atZ];rfl,rfl,⟨i1,by show i<=((x.2.1+1:Nat):Int);omega,ae,by show j+1<=((x.2.1+1:Nat):Int);omega⟩,hd,hs.succ,ht.half.1⟩,
   ⟨s,sP t,i,j+1,by rw [<-ayM];rfl,rfl,⟨i1,by show i<=((x.2.1+1:Nat):Int);omega,ae,by show j+1<=((x.2.1+1:Nat):Int);omega⟩,hd,hs.succ,ht.half.2⟩⟩
theorem aGr {P:Program} {f:Nat} {cap:List LV} {D:Nat} (hD:D<=24) {a b c d:Rat} (cL:a<b) (yx:c<d) (ha:Go.Lg.rl a<=300) (hb:Go.Lg.rl b<=300) (hc:Go.Lg.rl c<=300) (hd:Go.Lg.rl d<=300) (lk:ky)
  (hl:∀ s t:Sp,kZ D s->kZ D t->ax P f ([.list 6 ([bn a b s].map aE),.list 6 ([bn c d t].map aE)]++cap) (vdL (lk [bn a b s] [bn c d t])))
  (hk:∀ s t:Sp,kZ D s->kZ D t->(lk [bn a b s] [bn c d t]).2.1<=4/\(lk [bn a b s] [bn c d t]).2.2<=4):ae1 P f cap D 1 2 lk (wI D a b c d):=by
 have hle:∀ {n:Nat} {s:Sp},n<=D->kZ n s->kZ D s:=fun hn h=>⟨h.1.le hn,h.2.1.le hn,h.2.2⟩
 refine⟨fun x h=>?_,fun x h t ht=>?_,fun x h=>?_,fun x h s hs=>?_,fun x h hd=>alh h hd,fun x h=>?_,fun x h=>?_⟩
 ·obtain⟨s,t,i,j,e,f,_⟩:=h;rw [e,f];exact⟨rfl,rfl⟩
 ·obtain⟨s,t',i,j,e,f,⟨i1,i2,j1,j2⟩,hd,_⟩:=h
  rw [f] at ht
  simp only [fx,jy,or_false] at ht
  rcases ht with rfl | rfl<;>omega
 ·obtain⟨_,_,_,_,_,_,_,hd,_⟩:=h;exact hd
 ·obtain⟨s',t',i,j,e,f,_,hd9,k1,k2⟩:=h
  rw [e] at hs
  simp only [fx,jy,or_false] at hs
  rcases hs with rfl | rfl
  ·have hr:=k1.rl ae
   have h1:=sH ha hb hr.1
   have h2:=sH ha hb hr.2
   exact⟨⟨by show Go.Lg.rl (a+(b-a)*s'.1)<=_;omega,by show Go.Lg.rl (a+(b-a)*s'.2)<=_;omega⟩,ib (y7 cL k1.2.2.2.1)⟩
  ·have hr:=k2.rl ae
   have h1:=sH hc hd hr.1
   have h2:=sH hc hd hr.2
   exact⟨⟨by show Go.Lg.rl (c+(d-c)*t'.1)<=_;omega,by show Go.Lg.rl (c+(d-c)*t'.2)<=_;omega⟩,ib (y7 yx k2.2.2.2.1)⟩
 ·obtain⟨s',t',i,j,e,f,_,hd,k1,k2⟩:=h
  rw [e];exact hl s' t' (hle hd k1) (hle hd k2)
 ·obtain⟨s',t',i,j,e,f,_,hd,k1,k2⟩:=h
  rw [e];exact hk s' t' (hle hd k1) (hle hd k2)
def cH (D N:Nat) (x:Rat):Prop:=∃ z:Int,x*((D:Int):Rat)=(z:Rat)/\z.natAbs<=N
theorem abm (m n:Nat):(((m*n:Nat):Int):Rat)=((m:Int):Rat)*((n:Int):Rat):=by push_cast;rfl
theorem ae0 {D:Nat} (h:0<D):(0:Rat)<((D:Int):Rat):=sK.2 ae
theorem cH.rl {D N k:Nat} {x:Rat} (h:cH D N x) (hD:0<D) (hN:N<4294967296 ^ k) (fo:D<4294967296 ^ k) (hk:1<=k):Go.Lg.rl x<=k:=by
 obtain⟨z,e,hz⟩:=h
 have hp:=ae0 hD
 have:x=(z:Rat)/((D:Int):Rat):=by rw [<-e,vO cj]
 rw [this,<-afs]
 have:=acm (k:=k) (decide (z<0) != decide ((D:Int)<0)) (n:=z.natAbs) (d:=(D:Int).natAbs) ae (by simpa using fo)
 omega
theorem cH.div {D N k:Nat} {x y:Rat} (h:cH D N x) (g:cH D N y) (hD:0<D) (hN:N<4294967296 ^ k) (hk:1<=k):Go.Lg.rl (x/y)<=k:=by
 obtain⟨z,e,hz⟩:=h
 obtain⟨u,f,hu⟩:=g
 have hp:=ae0 hD
 have:x/y=(z:Rat)/(u:Rat):=by
  rw [<-e,<-f]
  by_cases hy:y=0
  ·subst hy;rw [vQ,iV,iV];simp
  ·have h1:y*((D:Int):Rat)≠0:=by
    intro e0
    rcases alZ.1 e0 with e1 | e1
    ·exact hy e1
    ·grind
   have h2:x/y*y=x:=kf hy
   have h3:x*((D:Int):Rat)/(y*((D:Int):Rat))*(y*((D:Int):Rat))=x*((D:Int):Rat):=kf h1
   have h4:x/y*(y*((D:Int):Rat))=x*((D:Int):Rat):=by rw [<-wk,h2]
   have h5:x/y=x*((D:Int):Rat)/(y*((D:Int):Rat)):=by rw [<-h4,vO h1]
   exact h5
 rw [this,<-afs]
 have:=acm (k:=k) (decide (z<0) != decide (u<0)) (n:=z.natAbs) (d:=u.natAbs) ae ae
 omega
def uQ (E:Nat) (x:Rat):Prop:=∃ α β:Nat,x*((E:Int):Rat)=((α:Int):Rat)/\(1-x)*((E:Int):Rat)=((β:Int):Rat)
theorem uQ.sum {E:Nat} {x:Rat} {α β:Nat} (h1:x*((E:Int):Rat)=((α:Int):Rat)) (h2:(1-x)*((E:Int):Rat)=((β:Int):Rat)):α+β=E:=by
 have:(((α+β:Nat):Int):Rat)=((E:Int):Rat):=by
  push_cast
  push_cast at h1 h2
  rw [<-h1,<-h2];grind
 have:=Rat.intCast_inj.1 this
 omega
theorem apE {n:Nat} {x:Rat} (h:lb n x) (h0:0<=x) (h1:x<=1):uQ (2 ^ n) x:=by
 obtain⟨z,e⟩:=h.mul
 have hp:=two_pos n
 have m0:=iN h0 (ib hp)
 have m1:=iN (show 0<=1-x by grind) (ib hp)
 have e2:(1-x)*(((2 ^ n:Nat):Int):Rat)=((((2 ^ n:Nat):Int)-z:Int):Rat):=by
  push_cast
  push_cast at e
  rw [<-e];grind
 rw [e] at m0
 rw [e2] at m1
 have z0:0<=z:=z8.1 m0
 have z1:0<=((2 ^ n:Nat):Int)-z:=z8.1 m1
 refine⟨z.toNat,(((2 ^ n:Nat):Int)-z).toNat,?_,?_⟩
 ·rw [yK z0];exact e
 ·rw [yK z1];exact e2
theorem afc {a:Rat} {E:Nat} (ha:uQ E a):∀ (n:Nat) {D N:Nat} (f:Nat->Rat),(∀ i,i<=n->cH D N (f i))->cH (D*E ^ n) (N*E ^ n) (fE (1-a) a n f)
 | 0,D,N,f,h=>by
  have:=h 0 (bq _)
  simpa [fE] using this
 | n+1,D,N,f,h=>by
  rw [fE,jt,fA (E ^ n) E,<-fM,<-fM]
  refine afc ha n _ fun i hi=>?_
  obtain⟨α,β,e1,e2⟩:=ha
  have es:=uQ.sum e1 e2
  obtain⟨z,f1,g1⟩:=h i ae
  obtain⟨u,f2,g2⟩:=h (i+1) ae
  refine⟨(β:Int)*z+(α:Int)*u,?_,?_⟩
  ·rw [abm,abD,sO,sO,<-e1,<-e2,<-f1,<-f2]
   grind
  ·have h1:=ak7 ((β:Int)*z) ((α:Int)*u)
   rw [acX,acX,agE,agE] at h1
   have h2:=kv β g1
   have h3:=kv α g2
   have h4:N*E=β*N+α*N:=by rw [<-es,fA,iA,qB]
   omega
theorem ay7 {a b:Rat} {E:Nat} (ha:uQ E a) (hb:uQ E b) {n j D N:Nat} (hj:j<=n) {f:Nat->Rat} (h:∀ i,i<=n->cH D N (f i)):cH (D*E ^ n) (N*E ^ n) (oV a b n f j):=by
 have h1:∀ m,m<=n-j->cH (D*E ^ j) (N*E ^ j) (sI b j f m):=fun m hm=>by
  rw [uV]
  exact afc hb j _ fun i hi=>h _ ae
 unfold oV
 rw [uV]
 have:=afc ha (n-j) (fun i=>sI b j f (0+i)) fun i hi=>h1 (0+i) ae
 rw [fM,fM,<-mg,Nat.add_sub_cancel' hj] at this
 exact this
structure cvC (po:List aG) (d D N:Nat):Prop where
 n:∀ k i,i<=d->cH D N ((a8 po k).getD i 0)
 w:∀ i,i<=d->cH D N ((aL po).getD i 0)
theorem aJ6 {po:List aG} {d R:Nat} (h:ow po d R) {x y:Rat} (iO:0<=x) (fh:x<1) (jE:0<=y) (ke:y<=1) {D N E k:Nat} (hD:0<D) (hE:0<E) (hx:uQ E x) (hy:uQ E y) (hc:cvC po d D N)
  (hN:N*E ^ d<4294967296 ^ k) (fo:D*E ^ d<4294967296 ^ k) (hk:1<=k):ow (lJ po x y) d k:=by
 have hl:=h.hl
 have hDE:0<D*E ^ d:=mG hD (my hE)
 refine⟨by rw [uD,hl],h.hd,h.h6,fun q hq=>?_⟩
 obtain⟨j,hj,rfl⟩:=cQ.1 hq
 have hj:j<po.length:=by simpa using hj
 have hw:cH (D*E ^ d) (N*E ^ d) ((eH (aL po) x y).getD j 0):=by
  rw [aeG h fh ae]
  exact ay7 hx hy ae fun i hi=>hc.w i hi
 have hn:∀ k,cH (D*E ^ d) (N*E ^ d) ((eH (a8 po k) x y).getD j 0):=fun k=>by
  rw [acB h fh k ae]
  exact ay7 hx hy ae fun i hi=>hc.n k i hi
 exact⟨⟨(hn 0).div hw hDE hN hk,(hn 1).div hw hDE hN hk,(hn 2).div hw hDE hN hk⟩,hw.rl hDE hN fo hk,ahf h iO fh jE ke ae⟩
theorem awN {p:List Rat} {x:Rat} {R:Nat} (hp:∀ z∈p,rl z<=R) (hx:rl x<=4):rl (aJ p x)<=(R+11)*2 ^ p.length:=by
 have h5:=jF 1 x
 rw [show rl 1=1 from rfl] at h5
 have ni:0<2 ^ p.length:=my aj
 have h:∀ z∈p,(rl z+11)*2 ^ p.length<=(R+11)*2 ^ p.length:=fun z hz=>fU _ (by have:=hp z hz;omega)
 have h1:1<=(R+11)*2 ^ p.length:=mG ae ni
 exact iX h1 (fun z hz=>by have:=akz (C:=11) ae p.length p rfl h z hz;omega) _
theorem aEc {po:List aG} {d:Nat} {W x:Rat} (h3:d<=3) (h:nJ po d 100) (hW:rl W<=200) (hx:rl x<=4):cJ 3700000 (ad2 W po x):=by
 have h5:=h.d5
 have hd:=h.c.hd
 have w:=h.w
 have hw:=awN w.2 hx
 have jb:2 ^ (aL po).length<=2 ^ 4:=mh aj ae
 have hw2:rl (aJ (aL po) x)<=111*2 ^ 4:=ba hw (kv _ jb)
 have ht:∀ k,rl (aJ (fq po k) x)<=48802*2 ^ 6:=fun k=>by
  have t:=h.t k
  have h1:=awN t.2 hx
  have h2:2 ^ (fq po k).length<=2 ^ 6:=mh aj ae
  exact ba h1 (ba (kv _ h2) ae)
 have m0:=df (aJ (aL po) x) (aJ (aL po) x)
 have m1:=df W (aJ (aL po) x*aJ (aL po) x)
 have m2:=tA 1 (W*(aJ (aL po) x*aJ (aL po) x))
 have r1:rl 1=1:=rfl
 have g:∀ k,rl (1/(W*(aJ (aL po) x*aJ (aL po) x))*aJ (fq po k) x)<=3700000:=fun k=>by
  have m3:=df (1/(W*(aJ (aL po) x*aJ (aL po) x))) (aJ (fq po k) x)
  have:=ht k
  omega
 exact⟨g 0,g 1,g 2⟩
theorem aIN {po:List aG} {d:Nat} {W:Rat} (h:nJ po d 100) (hW:rl W<=200):qh 20000000 (mN W po):=by
 have g:∀ k,dC 20000000 (qE W po k):=fun k=>(atd (h.qu k) (show dC 200 (W,W) from ⟨hW,hW⟩)).le ae
 exact⟨g 0,g 1,g 2⟩
theorem aHH (S T:oP) (u v:V3) (l m:List V3):jQ S T u v l m<=4:=by
 unfold jQ
 split
 ·omega
 ·split
  ·omega
  ·split<;>omega
theorem az0 {s:Sp} (h:s.1<s.2):(kX s-s.1)/(s.2-s.1)=1/2:=by
 have e:=amH (s.1+s.2)
 have hn:s.2-s.1≠0:=by grind
 have:kX s-s.1=1/2*(s.2-s.1):=by
  show (s.1+s.2)/2-s.1=_
  grind
 rw [this,vO hn]
structure eX where
 d:Nat
 a:Rat
 b:Rat
 po:List aG
def dY (q:eX):dt:=(q.d,bu q.d q.a q.b,q.po)
structure qK (q:eX) (Dp D N:Nat):Prop where
 d5:q.d<=3
 ab:q.a<q.b
 ra:rl q.a<=30
 rb:rl q.b<=30
 c:ow q.po q.d 1000
 cc:cvC q.po q.d D N
 D0:0<D
 hN:N*(2 ^ Dp) ^ q.d<4294967296 ^ 100
 hD:D*(2 ^ Dp) ^ q.d<4294967296 ^ 100
def dy (q:eX) (s:Sp):List aG:=lJ q.po ((s.1-q.a)/(q.b-q.a)) ((s.2-q.a)/(q.b-q.a))
def o7 (q:eX) (s:Sp):V3:=ad2 (s.2-s.1) (dy q s) ((kX s-s.1)/(s.2-s.1))
def m9 (p q:eX):ky:=fun A B =>
 rZ (pG ((dy p (A.getD 0 default)).map aG.p)) (pG ((dy q (B.getD 0 default)).map aG.p))
  (jQ (mN ((A.getD 0 default).2-(A.getD 0 default).1) (dy p (A.getD 0 default))) (mN ((B.getD 0 default).2-(B.getD 0 default).1) (dy q (B.getD 0 default))) (o7 p (A.getD 0 default)) (o7 q (B.getD 0 default)) ((dy p (A.getD 0 default)).map aG.p) ((dy q (B.getD 0 default)).map aG.p))
structure sdK (q:eX) (s:Sp):Prop where
 len:(dy q s).length=q.d+1
 cv:nJ (dy q s) q.d 100
 pos:∀ z∈(dy q s).map aG.p,cJ 100 z
 box:qh 100 (pG ((dy q s).map aG.p))
 spd:qh 20000000 (mN (s.2-s.1) (dy q s))
 tan:cJ 3700000 (o7 q s)
 cut:ax an 43 [.agg [ai q.d,.list 3 ((bu q.d q.a q.b).map ah),.list 12 (q.po.map aY)],ah s.1,ah s.2] (.bf [.agg [ai q.d,.list 3 ((bu q.d s.1 s.2).map ah),.list 12 ((dy q s).map aY)],iL 0])
 bx:ax an 45 [.agg [ai q.d,.list 3 ((bu q.d s.1 s.2).map ah),.list 12 ((dy q s).map aY)]] (oc (pG ((dy q s).map aG.p)))
 sp:ax an 100 [.agg [ai q.d,.list 3 ((bu q.d s.1 s.2).map ah),.list 12 ((dy q s).map aY)]] (oc (mN (s.2-s.1) (dy q s)))
 dom:ax an 41 [.agg [ai q.d,.list 3 ((bu q.d s.1 s.2).map ah),.list 12 ((dy q s).map aY)]] (aE s)
 mid:ax an 105 [aE s] (ah (kX s))
 tg:ax an 104 [.agg [ai q.d,.list 3 ((bu q.d s.1 s.2).map ah),.list 12 ((dy q s).map aY)],ah (kX s)] (.bf [a5 (o7 q s),iL 0])
 ends:ax an 111 [.agg [ai q.d,.list 3 ((bu q.d s.1 s.2).map ah),.list 12 ((dy q s).map aY)]] (.bf [a5 ((dy q s).getD 0 default).p,a5 ((dy q s).getD ((dy q s).length-1) default).p])
theorem adB {q:eX} {Dp D N:Nat} (h:qK q Dp D N) (wJ:Dp<=23) {σ:Sp} (hs:kZ Dp σ):sdK q (bn q.a q.b σ):=by
 obtain⟨s1,s2,s3,s4,s5⟩:=hs
 have hσ:kZ Dp σ:=⟨s1,s2,s3,s4,s5⟩
 have cL:=h.ab
 have aqY:=hσ.rl ae
 have hra:=h.ra
 have hrb:=h.rb
 have h5:=h.d5
 have hc:=h.c
 have r1:=sH hra hrb aqY.1
 have r2:=sH hra hrb aqY.2
 have eC:dy q (bn q.a q.b σ)=lJ q.po σ.1 σ.2:=by
  unfold dy
  rw [show ((bn q.a q.b σ).1-q.a)/(q.b-q.a)=σ.1 from abF cL σ.1,show ((bn q.a q.b σ).2-q.a)/(q.b-q.a)=σ.2 from abF cL σ.2]
 have fh:σ.1<1:=by grind
 have jE:0<=σ.2:=by grind
 have at7:σ.1<=1:=by grind
 have hu1:=apE s1 s3 at7
 have w9:=apE s2 jE s5
 have hE:0<2 ^ Dp:=my aj
 have hR:=aJ6 hc s3 fh jE s5 (k:=100) h.D0 hE hu1 w9 h.cc h.hN h.hD aj
 have vN:nJ (dy q (bn q.a q.b σ)) q.d 100:=by rw [eC];exact⟨hR,ae,by decide,by decide⟩
 have bH:(bn q.a q.b σ).1<(bn q.a q.b σ).2:=y7 cL s4
 have aIw:=adv cL s3 at7
 have aFy:=adv cL jE s5
 have e1:=jF 1 σ.1
 have e2:=jF 1 σ.2
 have rr1:rl 1=1:=rfl
 have ew:=jF (bn q.a q.b σ).2 (bn q.a q.b σ).1
 have r1':rl (bn q.a q.b σ).1<=95:=by show rl (q.a+(q.b-q.a)*σ.1)<=_;omega
 have r2':rl (bn q.a q.b σ).2<=95:=by show rl (q.a+(q.b-q.a)*σ.2)<=_;omega
 have hW:rl ((bn q.a q.b σ).2-(bn q.a q.b σ).1)<=200:=by omega
 have hmd:=aHe bH
 have hmr:rl (kX (bn q.a q.b σ))<=95:=by
  rw [ama]
  have hm:=(hσ.half.1).rl (show Dp+1<=24 by omega)
  have:=sH hra hrb hm.2
  have e:(rT σ).2=kX σ:=rfl
  rw [e] at this
  omega
 have hlen:(dy q (bn q.a q.b σ)).length=q.d+1:=vN.c.hl
 have ni:∀ z∈(dy q (bn q.a q.b σ)).map aG.p,cJ 100 z:=fun z hz=>by
  obtain⟨y,hy,rfl⟩:=cQ.1 hz
  exact(vN.c.ok y hy).1
 have hbx:qh 100 (pG ((dy q (bn q.a q.b σ)).map aG.p)):=by
  have hb:∀ i,i<((dy q (bn q.a q.b σ)).map aG.p).length->cJ 100 (((dy q (bn q.a q.b σ)).map aG.p).getD i default):=fun i hi=>by
   rw [bp,b7 hi]
   exact ni _ (qk hi)
  have hl0:((dy q (bn q.a q.b σ)).map aG.p).length-1<((dy q (bn q.a q.b σ)).map aG.p).length:=by rw [dL,hlen];omega
  exact⟨agx hb 0 _ hl0,agx hb 1 _ hl0,agx hb 2 _ hl0⟩
 have aG9:=az0 bH
 have hrh:rl ((kX (bn q.a q.b σ)-(bn q.a q.b σ).1)/((bn q.a q.b σ).2-(bn q.a q.b σ).1))<=4:=by rw [aG9];decide +kernel
 have avM:=aCB q.d q.a q.b q.po ae ae cL ae (bn q.a q.b σ).1 (bn q.a q.b σ).2 σ.1 σ.2 ae ae aIw.1 bH aFy.2 (abF cL σ.1) (abF cL σ.2) fh ae ae 1000 aj hc (fun k z hz=>ba (aie hc.ok k z hz) aj) (fun z hz=>ba (ahW hc.ok z hz) aj) s3 jE s5
 rw [<-eC] at avM
 exact⟨hlen,vN,ni,hbx,aIN vN hW,aEc h5 vN hW hrh,avM,aDg _ _ _ 100 aj vN.c,aIR _ _ _ _ ae ae bH ae 100 vN,ahD _ _ _ _ ae ae bH ae,ayu _ ae,aFh _ _ _ _ ae ae bH ae 100 vN _ _ ae hmd.1 hmd.2 rfl ae,aJJ _ _ _ 100 aj vN.c⟩
theorem azk {p q:eX} {Dp D N D' N':Nat} (hp:qK p Dp D N) (hq:qK q Dp D' N') (wJ:Dp<=23):ae1 an 42 [.cr (dU (dY p)),.cr (dU (dY q))] Dp 1 2 (m9 p q) (wI Dp p.a p.b q.a q.b):=by
 have kE:=hp.ra
 have sE:=hp.rb
 have rX:=hq.ra
 have hq2:=hq.rb
 refine aGr ae hp.ab hq.ab ae ae ae ae (m9 p q) (fun s t hs ht=>?_) (fun s t hs ht=>?_)
 ·have h1:=adB hp wJ hs
  have h2:=adB hq wJ ht
  have hpd:=hp.d5
  have hqd:=hq.d5
  have lY:=h1.len
  have oX:=h2.len
  have hK:=aA0 p.d q.d _ _ _ _ _ _ 20000000 aj h1.spd h2.spd _ _ _ _ _ _ 3700000 aj h1.tan h2.tan ae ae ae ae (fun z hz=>(h1.pos z hz).le aj) (fun z hz=>(h2.pos z hz).le aj) h1.sp h2.sp h1.dom h2.dom h1.mid h2.mid h1.tg h2.tg h1.ends h2.ends
  exact aEs p.d q.d _ _ _ _ p.po q.po _ _ _ _ _ _ 100 aj h1.box h2.box _ h1.cut h2.cut h1.bx h2.bx hK
 ·show (rZ _ _ _).2.1<=4/\(rZ _ _ _).2.2<=4
  unfold rZ
  split
  ·exact⟨aHH _ _ _ _ _ _,b8 _⟩
  ·exact⟨b8 _,b8 _⟩
def ji (c:dt):eX:=⟨c.1,c.2.1.getD 0 0,c.2.1.getD (2*(c.1+1)-1) 0,c.2.2⟩
theorem aar (q:eX):ji (dY q)=q:=by
 obtain⟨d,a,b,po⟩:=q
 show eX.mk d ((bu d a b).getD 0 0) ((bu d a b).getD (2*(d+1)-1) 0) po=_
 rw [aaS,ab2]
def kF (d w:Nat) (wd:Rat) (lA lB:List eX):oS:=og d w wd (fun c e=>m9 (ji c) (ji e)) (fun c=>((ji c).a,(ji c).b)) (lA.map dY) (lB.map dY) (0,[])
theorem aJz (d1 d2:Nat) (k1 k2:List Rat) (cI cy:List aG) (lY:cI.length<=1000) (oX:cy.length<=1000) (yG:∀ x∈cI,x.p.z=0) (hz2:∀ x∈cy,x.p.z=0) (lA lB:List eX) (hA:lA.length<=10) (hB:lB.length<=10) (d w:Nat) (wd:Rat) (hd:d<=10) (hw:w<=4096) (hwd:rl wd<=100)
  (yt:ax an 37 [.agg [ai d,ai w,ah wd]] (bL true)) (hP1:ax an 39 [.agg [ai d1,.list 3 (k1.map ah),.list 12 (cI.map aY)]] (.list 3 ((lA.map dY).map dU))) (hP2:ax an 39 [.agg [ai d2,.list 3 (k2.map ah),.list 12 (cy.map aY)]] (.list 3 ((lB.map dY).map dU)))
  (hKA:∀ q∈lA,∃ D N,qK q d D N) (hKB:∀ q∈lB,∃ D N,qK q d D N) :
  ax an 14 [.agg [ai d1,.list 3 (k1.map ah),.list 12 (cI.map aY)],.agg [ai d2,.list 3 (k2.map ah),.list 12 (cy.map aY)],.agg [ai d,ai w,ah wd]] (.bf [.list 4 ((kF d w wd lA lB).2.map fy),iL 0]):=by
 have yH:∀ (l:List eX),(∀ q∈l,∃ D N,qK q d D N)->∀ c∈l.map dY,ax an 41 [dU c] (aE ((ji c).a,(ji c).b)):=fun l hK c hc=>by
  obtain⟨q,hq,rfl⟩:=cQ.1 hc
  obtain⟨D,N,h⟩:=hK q hq
  have h5:=h.d5
  have ha:=h.ra
  have hb:=h.rb
  rw [aar]
  exact ahD q.d q.a q.b q.po ae ae h.ab ae
 refine aA8 d1 d2 k1 k2 cI cy lY oX yG hz2 (lA.map dY) (lB.map dY) kR kR d w wd hd hw hwd (fun c e=>m9 (ji c) (ji e)) (fun c=>((ji c).a,(ji c).b)) (fun c e=>wI d (ji c).a (ji c).b (ji e).a (ji e).b) yt hP1 hP2 (yH lA hKA) (yH lB hKB) (fun c hc e he=>?_) (fun c hc e he=>anP ..)
 obtain⟨p,hp,rfl⟩:=cQ.1 hc
 obtain⟨q,hq,rfl⟩:=cQ.1 he
 obtain⟨D,N,h⟩:=hKA p hp
 obtain⟨D',N',h'⟩:=hKB q hq
 show ae1 _ _ _ d 1 2 (m9 (ji (dY p)) (ji (dY q))) (wI d (ji (dY p)).a (ji (dY p)).b (ji (dY q)).a (ji (dY q)).b)
 rw [aar,aar]
 exact azk h h' ae
def rN (s:Sp) (x:Rat):Prop:=s.1<=x/\x<=s.2
def tJ (q:eX) (t:Rat):V3:=jq q.po ((t-q.a)/(q.b-q.a))
theorem zh {a b t:Rat} (h:a<b) (h1:a<=t) (h2:t<=b):0<=(t-a)/(b-a)/\(t-a)/(b-a)<=1:=by
 have hp:0<b-a:=by grind
 have hi:=(adA hp gf).1
 have hr:1/(b-a)*(b-a)=1:=kf cj
 have e:(t-a)/(b-a)=1/(b-a)*(t-a):=by rw [iV,iV,ph,oW]
 have m1:=iN (ib hi) (show 0<=t-a by grind)
 have m2:=iN (ib hi) (show 0<=b-t by grind)
 rw [e]
 generalize 1/(b-a)=r at *
 constructor
 ·exact m1
 ·have:r*(b-t)=r*(b-a)-r*(t-a):=by grind
  rw [this,hr] at m2
  grind
theorem aJj {n w:List Rat} {w0 m t u:Rat} (hn:0<n.length) (hw:0<w.length) (yM:0<w0) (hW:∀ t,0<=t->t<=1->w0<=aJ w t) (ht:0<=t) (htu:t<=u) (hu:u<=1)
  (h:∀ s,t<=s->s<=u->(aJ (cX n) s*aJ w s-aJ n s*aJ (cX w) s)/(aJ w s*aJ w s)<=m):aJ n u/aJ w u<=aJ n t/aJ w t+m*(u-t):=by
 obtain⟨K,k⟩:=aq0 hn hw yM hW
 have key:-(aJ n t/aJ w t)+-m*(u-t)<=-(aJ n u/aJ w u):=by
  refine mvi (g:=fun x=>-(aJ n x/aJ w x)) (C:=K) htu fun s d hs hd hsd=>?_
  have h1:=(k s d (gR ht hs) hd (gR hsd hu)).2
  have hsu:s<=u:=by clear h1 h k hW;grind
  have h2:=u5 (h s hs hsu) hd
  show -(aJ n s/aJ w s)+_<=-(aJ n (s+d)/aJ w (s+d))
  clear h k hW
  generalize (aJ (cX n) s*aJ w s-aJ n s*aJ (cX w) s)/(aJ w s*aJ w s)=q at *
  generalize aJ n s/aJ w s=x at *
  generalize aJ n (s+d)/aJ w (s+d)=y at *
  grind
 clear h k hW
 generalize aJ n t/aJ w t=x at *
 generalize aJ n u/aJ w u=y at *
 grind
theorem awJ (po:List aG) (x:Rat) (k:Nat) (hk:k<3):(jq po x).at k=aJ (a8 po k) x/aJ (aL po) x:=by
 have e:∀ a b:Rat,1/a*b=b/a:=fun a b=>by rw [iV,ph,iV,oW]
 match k,hk with
 | 0,_=>exact e _ _
 | 1,_=>exact e _ _
 | 2,_=>exact e _ _
section
variable {po:List aG} {d R:Nat} (h:nJ po d R)
include h
def yC (po:List aG) (k:Nat):Rat × Rat:=vo (eF (fq po k)) (mK (eF (aL po)))
theorem aH7 (k:Nat) (s:Rat):aJ (fq po k) s=aJ (cX (a8 po k)) s*aJ (aL po) s-aJ (a8 po k) s*aJ (cX (aL po)) s:=by
 have n1:=h.n k
 have n2:=h.w
 have n3:=h.dn k
 have n4:=h.dw
 have m1:=h.m1 k
 have m2:=h.m2 k
 have hd:=h.c.hd
 unfold fq
 rw [aF0 (by rw [m1.1];omega) (by rw [m1.1,m2.1]),ayl (by rw [n3.1];omega) (by rw [n2.1];omega),ayl (by rw [n1.1];omega) (by rw [n4.1];omega)]
theorem anF {s:Rat} (h0:0<=s) (h1:s<=1):(eF (aL po)).1<=aJ (aL po) s/\aJ (aL po) s<=(eF (aL po)).2:=by
 have hb:=aq8 (p:=aL po) h0 h1 (by rw [mC,h.c.hl];omega)
 unfold jX at hb
 simp only [kI,decide_eq_true_eq] at hb
 exact hb
theorem agW (k:Nat) {s:Rat} (h0:0<=s) (h1:s<=1):(yC po k).1<=(aJ (cX (a8 po k)) s*aJ (aL po) s-aJ (a8 po k) s*aJ (cX (aL po)) s)/(aJ (aL po) s*aJ (aL po) s)/\(aJ (cX (a8 po k)) s*aJ (aL po) s-aJ (a8 po k) s*aJ (cX (aL po)) s)/(aJ (aL po) s*aJ (aL po) s)<=(yC po k).2:=by
 have hb:=aq8 (p:=fq po k) h0 h1 (by rw [(h.t k).1];omega)
 unfold jX at hb
 simp only [kI,decide_eq_true_eq] at hb
 have hw:=anF h h0 h1
 have cg:=h.lo
 have aI4:(eF (aL po)).1<=(eF (aL po)).2:=gR hw.1 hw.2
 have hs:=(sq_pos cg aI4).1
 rw [<-aH7 h]
 have g1:(eF (aL po)).1*(eF (aL po)).1<=aJ (aL po) s*aJ (aL po) s:=by
  have a:=u5 hw.1 (ib cg)
  have b:=pb hw.1 (show 0<=aJ (aL po) s by grind)
  exact gR a b
 have g2:aJ (aL po) s*aJ (aL po) s<=(eF (aL po)).2*(eF (aL po)).2:=by
  have a:=u5 hw.2 (show 0<=aJ (aL po) s by grind)
  have b:=pb hw.2 (show 0<=(eF (aL po)).2 by grind)
  exact gR a b
 have hr:=avo (B:=mK (eF (aL po))) (b:=aJ (aL po) s*aJ (aL po) s) (by rw [hs];exact aak cg cg) (by rw [hs];exact g1) (by rw [hs];exact g2)
 have hm:=aho hb.1 hb.2 hr.1 hr.2
 have e:aJ (fq po k) s/(aJ (aL po) s*aJ (aL po) s)=aJ (fq po k) s*(1/(aJ (aL po) s*aJ (aL po) s)):=by rw [iV,iV,ph]
 rw [e]
 exact hm
theorem awU {W:Rat} (hW:0<W) (k:Nat) (hk:k<3) {x y:Rat} (hx:0<=x) (sA:x<=y) (hy:y<=1):∃ α,(qE W po k).1<=α/\α<=(qE W po k).2/\(jq po y).at k-(jq po x).at k=α*(W*(y-x)):=by
 have iD:0<(aL po).length:=by rw [mC,h.c.hl];omega
 have hln:0<(a8 po k).length:=by rw [kY,h.c.hl];omega
 have lo:=azg hln iD h.lo (fun t h0 h1=>(anF h h0 h1).1) hx sA hy (m:=(yC po k).1) fun s h1 h2=>(agW h k (gR hx h1) (gR h2 hy)).1
 have hi:=aJj hln iD h.lo (fun t h0 h1=>(anF h h0 h1).1) hx sA hy (m:=(yC po k).2) fun s h1 h2=>(agW h k (gR hx h1) (gR h2 hy)).2
 have h12:(yC po k).1<=(yC po k).2:=gR (agW h k hx (gR sA hy)).1 (agW h k hx (gR sA hy)).2
 rw [awJ _ _ _ hk,awJ _ _ _ hk]
 have hr:=avo (B:=(W,W)) (b:=W) hW gf gf
 have hwr:1/W*W=1:=kf cj
 have s8:∀ b,(yC po k).1<=b->b<=(yC po k).2->(qE W po k).1<=b*(1/W)/\b*(1/W)<=(qE W po k).2:=fun b h1 h2=>aho h1 h2 hr.1 hr.2
 clear hr
 generalize aJ (a8 po k) x/aJ (aL po) x=X at *
 generalize aJ (a8 po k) y/aJ (aL po) y=Y at *
 generalize (yC po k).1=b1' at *
 generalize (yC po k).2=b2' at *
 generalize 1/W=V at *
 by_cases e:x=y
 ·subst e
  have hXY:Y=X:=by grind
  obtain⟨g1,g2⟩:=s8 b1' gf h12
  exact⟨_,g1,g2,by rw [hXY];grind⟩
 ·have hp:0<y-x:=by grind
  have hs:(Y-X)/(y-x)*(y-x)=Y-X:=kf cj
  have i1:b1'<=(Y-X)/(y-x):=by
   have:b1'*(y-x)<=(Y-X)/(y-x)*(y-x):=by rw [hs];grind
   exact au6 this hp
  have i2:(Y-X)/(y-x)<=b2':=by
   have:(Y-X)/(y-x)*(y-x)<=b2'*(y-x):=by rw [hs];grind
   exact au6 this hp
  obtain⟨g1,g2⟩:=s8 _ i1 i2
  refine⟨_,g1,g2,?_⟩
  generalize (Y-X)/(y-x)=q at *
  have:q*V*(W*(y-x))=q*(y-x)*(V*W):=by grind
  rw [this,hwr,hs,pI]
theorem aiS {W:Rat} (hW:0<W) (k:Nat) (hk:k<3) {x y:Rat} (hx:0<=x) (fh:x<=1) (hy:0<=y) (ke:y<=1):∃ α,(qE W po k).1<=α/\α<=(qE W po k).2/\(jq po y).at k-(jq po x).at k=α*(W*(y-x)):=by
 rcases adq (a:=x) (b:=y) with g | g
 ·exact awU h hW k hk hx g ke
 ·obtain⟨α,a1,a2,a3⟩:=awU h hW k hk hy g fh
  refine⟨α,a1,a2,?_⟩
  have:(jq po y).at k-(jq po x).at k=-((jq po x).at k-(jq po y).at k):=by grind
  rw [this,a3]
  grind
end
theorem aFw {J:Rat × Rat} {x:Rat} (h:jX J 0=false) (h1:J.1<=x) (h2:x<=J.2):x≠0:=fun e=>by
 subst e
 unfold jX at h
 rw [decide_eq_true h1,decide_eq_true h2] at h
 cases h
theorem ayH {s:Rat × Rat} {x:Rat} (h1:s.1<=x) (h2:x<=s.2):(fJ s).1<=-x/\-x<=(fJ s).2:=by
 unfold fJ
 constructor
 ·show -s.2<=-x;grind
 ·show -x<=-s.1;grind
theorem azb {po pq:List aG} {d e R S:Nat} (ha:nJ po d R) (hb:nJ pq e S) {W V:Rat} (hW:0<W) (hV:0<V) {u v:V3} {l m:List V3} (hk:jQ (mN W po) (mN V pq) u v l m≠0) {x1 y1 x2 y2:Rat}
  (fh:0<=x1/\x1<=1) (pK:0<=x2/\x2<=1) (ke:0<=y1/\y1<=1) (hy2:0<=y2/\y2<=1) (g1:jq po x1=jq pq y1) (g2:jq po x2=jq pq y2):x1=x2/\y1=y2:=by
 have hd:jX (wx (qE W po 0) (fJ (qE V pq 0)) (qE W po 1) (fJ (qE V pq 1))) 0=false:=by
  unfold jQ at hk
  by_cases c:jX (wx (mN W po).x (fJ (mN V pq).x) (mN W po).y (fJ (mN V pq).y)) 0=true
  ·rw [if_pos c] at hk;exact absurd rfl hk
  ·exact Bool.eq_false_iff.2 c
 obtain⟨α,a1,a2,a3⟩:=aiS ha hW 0 aj fh.1 fh.2 pK.1 pK.2
 obtain⟨β,b1',b2',b3'⟩:=aiS ha hW 1 aj fh.1 fh.2 pK.1 pK.2
 obtain⟨γ,c1,c2,c3⟩:=aiS hb hV 0 aj ke.1 ke.2 hy2.1 hy2.2
 obtain⟨δ,d1,d2,d3⟩:=aiS hb hV 1 aj ke.1 ke.2 hy2.1 hy2.2
 rw [g1,g2] at a3 b3'
 have e1':α*(W*(x2-x1))=γ*(V*(y2-y1)):=a3.symm.trans c3
 have e2':β*(W*(x2-x1))=δ*(V*(y2-y1)):=b3'.symm.trans d3
 obtain⟨n1,n2⟩:=ayH d1 d2
 obtain⟨n3,n4⟩:=ayH c1 c2
 obtain⟨tu,rJ⟩:=aho a1 a2 n1 n2
 obtain⟨p3',p4'⟩:=aho n3 n4 b1' b2'
 obtain⟨s1,s2⟩:=ank tu rJ p3' p4'
 have aX:α*-δ - -γ*β≠0:=aFw hd s1 s2
 clear hd a3 b3' c3 d3 s1 s2 tu rJ p3' p4' n1 n2 n3 n4 a1 a2 b1' b2' c1 c2 d1 d2 g1 g2 hk
 have z1:(α*-δ - -γ*β)*(W*(x2-x1))=0:=by
  generalize W*(x2-x1)=a at *
  generalize V*(y2-y1)=b at *
  have oL:α*-δ*a=-δ*(α*a):=by grind
  have tG:-γ*β*a=-γ*(β*a):=by grind
  rw [af3,ax8,auk,oL,tG,e1',e2']
  grind
 have z2:(α*-δ - -γ*β)*(V*(y2-y1))=0:=by
  generalize W*(x2-x1)=a at *
  generalize V*(y2-y1)=b at *
  have oL:α*-δ*b=-α*(δ*b):=by grind
  have tG:-γ*β*b=-β*(γ*b):=by grind
  rw [af3,ax8,auk,oL,tG,<-e1',<-e2']
  grind
 have zz:∀ w z:Rat,0<w->(α*-δ - -γ*β)*(w*z)=0->z=0:=fun w z hw hz=>by
  rcases alZ.1 hz with k | k
  ·exact absurd k aX
  ·rcases alZ.1 k with k | k
   ·grind
   ·exact k
 have f1:=zz _ _ hW z1
 have f2:=zz _ _ hV z2
 constructor<;>grind
theorem aHL {po:List aG} {d R:Nat} (h:ow po d R) {x:Rat} (h0:0<=x) (h1:x<=1) (r:V3) {lo hi:Rat} (hb:∀ i,i<=d->lo<=b9 r (po.getD i default).p/\b9 r (po.getD i default).p<=hi):lo<=b9 r (jq po x)/\b9 r (jq po x)<=hi:=by
 have hl:=h.hl
 have iO:0<=1-x:=by grind
 have fh:0<1-x+x:=by grind
 have l1':=adw h
 have l2':=fun k=>abW h k
 have hw:∀ i,i<=d->0<(po.getD i default).w:=fun i hi=>(h.ok _ (sJ (po:=po) (j:=i) ae)).2.2
 have ew:aJ (aL po) x=fE (1-x) x d (fun i=>(po.getD i default).w):=by
  rw [mZ ae,l1']
  exact pn _ _ _ _ _ fun i hi=>aav ae
 have en:∀ k,aJ (a8 po k) x=fE (1-x) x d (fun i=>(po.getD i default).w*(po.getD i default).p.at k):=fun k=>by
  rw [mZ (by rw [l2'];omega),l2']
  exact pn _ _ _ _ _ fun i hi=>xo ae
 have hp:0<aJ (aL po) x:=by rw [ew];exact adi iO h0 fh d _ hw
 have es:r.x*aJ (a8 po 0) x+r.y*aJ (a8 po 1) x+r.z*aJ (a8 po 2) x=fE (1-x) x d (fun i=>(po.getD i default).w*b9 r (po.getD i default).p):=by
  rw [en,en,en]
  have a:=xV (1-x) x r.x r.y d (fun i=>(po.getD i default).w*(po.getD i default).p.at 0) (fun i=>(po.getD i default).w*(po.getD i default).p.at 1)
  have b:=xV (1-x) x 1 r.z d (fun i=>r.x*((po.getD i default).w*(po.getD i default).p.at 0)+r.y*((po.getD i default).w*(po.getD i default).p.at 1)) (fun i=>(po.getD i default).w*(po.getD i default).p.at 2)
  rw [<-a,<-ph (fE (1-x) x d fun i=>r.x*((po.getD i default).w*(po.getD i default).p.at 0)+r.y*((po.getD i default).w*(po.getD i default).p.at 1)),<-b]
  refine pn _ _ _ _ _ fun i hi=>?_
  show 1*(r.x*((po.getD i default).w*(po.getD i default).p.x)+r.y*((po.getD i default).w*(po.getD i default).p.y))+r.z*((po.getD i default).w*(po.getD i default).p.z)=(po.getD i default).w*(0+r.x*(po.getD i default).p.x+r.y*(po.getD i default).p.y+r.z*(po.getD i default).p.z)
  grind
 have k1:0<=hi*aJ (aL po) x+(-1)*(r.x*aJ (a8 po 0) x+r.y*aJ (a8 po 1) x+r.z*aJ (a8 po 2) x):=by
  rw [ew,es,<-xV]
  refine akd iO h0 d _ fun i n5=>?_
  have:=iN (ib (hw i n5)) (show 0<=hi-b9 r (po.getD i default).p by have:=(hb i n5).2;grind)
  grind
 have k2:0<=(-lo)*aJ (aL po) x+1*(r.x*aJ (a8 po 0) x+r.y*aJ (a8 po 1) x+r.z*aJ (a8 po 2) x):=by
  rw [ew,es,<-xV]
  refine akd iO h0 d _ fun i n5=>?_
  have:=iN (ib (hw i n5)) (show 0<=b9 r (po.getD i default).p-lo by have:=(hb i n5).1;grind)
  grind
 have ek:b9 r (jq po x)=1/aJ (aL po) x*(r.x*aJ (a8 po 0) x+r.y*aJ (a8 po 1) x+r.z*aJ (a8 po 2) x):=by
  show 0+r.x*(1/aJ (aL po) x*aJ (a8 po 0) x)+r.y*(1/aJ (aL po) x*aJ (a8 po 1) x)+r.z*(1/aJ (aL po) x*aJ (a8 po 2) x)=_
  generalize 1/aJ (aL po) x=q
  grind
 rw [ek]
 have tK:=(adA hp gf).1
 have aX:aJ (aL po) x≠0:=by grind
 have hr:1/aJ (aL po) x*aJ (aL po) x=1:=kf aX
 have m1:=iN (ib tK) k1
 have m2:=iN (ib tK) k2
 clear ek hb ew en k1 k2 es
 generalize 1/aJ (aL po) x=q at *
 generalize aJ (aL po) x=w at *
 generalize r.x*aJ (a8 po 0) x+r.y*aJ (a8 po 1) x+r.z*aJ (a8 po 2) x=n at *
 have oL:q*(hi*w+-1*n)=hi*(q*w)-q*n:=by grind
 have tG:q*(-lo*w+1*n)=q*n-lo*(q*w):=by grind
 rw [oL,hr] at m1
 rw [tG,hr] at m2
 constructor<;>grind
theorem ag7 {po:List aG} {d R:Nat} (h:ow po d R) {x:Rat} (h0:0<=x) (h1:x<=1) (r:V3):(mz r (po.map aG.p)).1<=b9 r (jq po x)/\b9 r (jq po x)<=(mz r (po.map aG.p)).2:=by
 refine aHL h h0 h1 r fun i hi=>?_
 have hl:=h.hl
 have:=akf ((po.map aG.p).map (b9 r)) i bz
 rw [bp,g8,g8,b7 ae] at this
 rw [bp,b7 ae]
 exact this
theorem avI (r p:V3):(mz r [p]).1<=b9 r p/\b9 r p<=(mz r [p]).2:=akf [b9 r p] 0 aM
theorem aud {s t:Rat × Rat} (h:uB s t=true):¬(s.1<=0/\0<=s.2)/\¬(t.1<=0/\0<=t.2):=by
 unfold uB at h
 simp only [kI,decide_eq_true_eq] at h
 obtain⟨⟨h1,h2⟩,h3⟩:=h
 have g:∀ x y:Rat,x<=0->0<=y->cW x=cW y->cW x=0:=fun x y hx hy e=>by
  unfold cW at *
  split at e<;>split at e<;>(try split at e)<;>(try split at e)<;>grind
 constructor
 ·rintro⟨a,b⟩
  rw [g _ _ a b h1,Int.zero_mul] at h3
  omega
 ·rintro⟨a,b⟩
  rw [g _ _ a b h2,Int.mul_zero] at h3
  omega
theorem awO {po:List aG} {d R:Nat} (h:ow po d R):jq po 0=(po.getD 0 default).p/\jq po 1=(po.getD d default).p:=by
 have hl:=h.hl
 have l1':=adw h
 have l2':=fun k=>abW h k
 have hw:∀ i,i<=d->0<(po.getD i default).w:=fun i hi=>(h.ok _ (sJ (po:=po) (j:=i) ae)).2.2
 have g:∀ i,i<=d->∀ y:Rat,1/(po.getD i default).w*((po.getD i default).w*y)=y:=fun i hi y=>by
  have:=hw i hi
  have e:1/(po.getD i default).w*(po.getD i default).w=1:=kf cj
  rw [<-wk,e,ph]
 have n0:∀ k,aJ (a8 po k) 0=(po.getD 0 default).w*(po.getD 0 default).p.at k:=fun k=>by
  rw [mZ (by rw [l2'];omega),l2',show (1:Rat)-0=1 by decide +kernel,af2,xo ae]
 have n1:∀ k,aJ (a8 po k) 1=(po.getD d default).w*(po.getD d default).p.at k:=fun k=>by
  rw [mZ (by rw [l2'];omega),l2',show (1:Rat)-1=0 by decide +kernel,agq,mi,xo ae]
 have w0:aJ (aL po) 0=(po.getD 0 default).w:=by
  rw [mZ ae,l1',show (1:Rat)-0=1 by decide +kernel,af2,aav ae]
 have w1:aJ (aL po) 1=(po.getD d default).w:=by
  rw [mZ ae,l1',show (1:Rat)-1=0 by decide +kernel,agq,mi,aav ae]
 unfold jq jC
 rw [n0,n0,n0,n1,n1,n1,w0,w1]
 simp only [g 0 (b8 _),g d (bq _)]
 exact⟨rfl,rfl⟩
theorem aHb {po pq:List aG} {d e R S:Nat} (ha:ow po d R) (hb:ow pq e S) {X Y:oP} {u v:V3} (hk:jQ X Y u v (po.map aG.p) (pq.map aG.p)=3) {x y:Rat} (hx:0<=x/\x<=1) (hy:0<=y/\y<=1) (g:jq po x=jq pq y):x≠0/\x≠1/\y≠0/\y≠1:=by
 have hf:(aa6 u v (po.map aG.p) (pq.map aG.p) && abv u v (po.map aG.p) (pq.map aG.p))=true:=by
  unfold jQ at hk
  split at hk
  ·cases hk
  ·split at hk
   ·cases hk
   ·split at hk
    ·assumption
    ·cases hk
 rw [kI] at hf
 have fV:=ha.hl
 have mH:=hb.hl
 have ea:(po.map aG.p).getD 0 default=(po.getD 0 default).p:=abA ae
 have ea':(po.map aG.p).getD ((po.map aG.p).length-1) default=(po.getD d default).p:=by rw [dL,fV,mi];exact abA ae
 have eb:(pq.map aG.p).getD 0 default=(pq.getD 0 default).p:=abA ae
 have eb':(pq.map aG.p).getD ((pq.map aG.p).length-1) default=(pq.getD e default).p:=by rw [dL,mH,mi];exact abA ae
 obtain⟨f1,f2⟩:=aud hf.1
 obtain⟨f3,f4⟩:=aud hf.2
 rw [ea] at f1
 rw [ea'] at f2
 rw [eb] at f3
 rw [eb'] at f4
 obtain⟨va,va'⟩:=awO ha
 obtain⟨vb,vb'⟩:=awO hb
 have z:∀ (r p:V3) (q:List V3),(mz r q).1<=b9 r p->b9 r p<=(mz r q).2->(iK r [p] q).1<=0/\0<=(iK r [p] q).2:=fun r p q k1 k2=>by
  have a:=avI r p
  have:=ank a.1 a.2 k1 k2
  rw [show b9 r p-b9 r p=0 by grind] at this
  exact this
 have z':∀ (r p:V3) (q:List V3),(mz r q).1<=b9 r p->b9 r p<=(mz r q).2->(iK r q [p]).1<=0/\0<=(iK r q [p]).2:=fun r p q k1 k2=>by
  have a:=avI r p
  have:=ank k1 k2 a.1 a.2
  rw [show b9 r p-b9 r p=0 by grind] at this
  exact this
 refine⟨fun k=>?_,fun k=>?_,fun k=>?_,fun k=>?_⟩
 ·subst k
  have a:=ag7 hb hy.1 hy.2 (oE (mV u v) (mR u v) mF)
  rw [<-g,va] at a
  exact f1 (z _ _ _ a.1 a.2)
 ·subst k
  have a:=ag7 hb hy.1 hy.2 (oE (mV u v) (mR u v) mF)
  rw [<-g,va'] at a
  exact f2 (z _ _ _ a.1 a.2)
 ·subst k
  have a:=ag7 ha hx.1 hx.2 (oK (mV u v) (mR u v) mF)
  rw [g,vb] at a
  exact f3 (z' _ _ _ a.1 a.2)
 ·subst k
  have a:=ag7 ha hx.1 hx.2 (oK (mV u v) (mR u v) mF)
  rw [g,vb'] at a
  exact f4 (z' _ _ _ a.1 a.2)
theorem aHU (d:Nat) (a t b:Rat) (po:List aG) (R R4:Nat) (h1:1<=d) (h6:d<=6) (cm:a<t) (du:t<b) (ha:rl a<=64) (ht:rl t<=64) (hb:rl b<=64) (hl:po.length=d+2) (fH:1<=R) (hR:R<=1000) (hpo:∀ q∈po,sf R q) (hQ:∀ q∈(po.map cO),rv 10000000 q) (hk:kOK (bR d a t b) d) (hds:dk (bR d a t b) (bR d a t b).length=[a,t,b])
  (hR4:R4<=1000000000) (hA:∀ q∈kj d a t b (po.map cO),rv R4 q/\0<q.w) (hZ:∀ q∈km d a t b (po.map cO),rv R4 q/\0<q.w) (hAl:(kj d a t b (po.map cO)).length<=200) (hZl:(km d a t b (po.map cO)).length<=200) :
  ax an 39 [.agg [ai d,.list 3 ((bR d a t b).map ah),.list 12 (po.map aY)]] (.list 3 ((([⟨d,a,t,(kj d a t b (po.map cO)).map dW⟩,⟨d,t,b,(km d a t b (po.map cO)).map dW⟩]:List eX).map dY).map dU)):=by
 have h3:=adO (d:=d) ha ht hb
 have hlen:=pJ d a t b
 have hC:(po.map cO).length=d+2:=by rw [dL,hl]
 have qj:∀ (x y:Rat),rl x<=64->rl y<=64->∀ z∈bu d x y,rl z<=1000:=fun x y hx hy z hz=>ba (adb hx hy z hz) aj
 exact aqa d (bR d a t b) [a,t,b] po (fun i=>if i=0 then kj d a t b (po.map cO) else km d a t b (po.map cO)) 2 rfl aj ae ae h3 hds (atf d (bR d a t b) po hk ae) (aqh d (bR d a t b) po R fH hR ae ae (fun x hx=>ba (h3 x hx) aj) ae hpo)
  (fun i hi=>by
   match i,hi with
   | 0,_=>exact aBn d a t b (po.map cO) 10000000 h1 h6 cm du ha ht hb hC aj aj hQ
   | 1,_=>exact aAu d a t b (po.map cO) 10000000 h1 h6 cm du ha ht hb hC aj aj hQ)
  (fun i hi=>by
   match i,hi with
   | 0,_=>exact akI d (bu d a t) _ R4 hR4 ae (by rw [lL];omega) (qj a t ha ht) hAl hA
   | 1,_=>exact akI d (bu d t b) _ R4 hR4 ae (by rw [lL];omega) (qj t b ht hb) hZl hZ)
theorem aHI (d:Nat) (a t b:Rat):bR d a t b=kx d a [t] b:=by
 unfold bR kq kx
 simp
theorem aGX {d:Nat} {a t b:Rat} (h1:1<=d) (cm:a<t) (du:t<b) (ht:rl t<=64):anx d a [t] b :=
 ⟨fun x hx=>by rw [gS.1 hx];exact⟨cm,du⟩,fun i hi=>by simp at hi,fun x hx=>by
  rw [gS.1 hx]
  have:=aga [t] t [t].length
  exact ba this h1,Nat.le_succ 1,fun x hx=>by rw [gS.1 hx];exact ht⟩
theorem aDw {d:Nat} {a t b:Rat} (h1:1<=d) (h6:d<=6) (cm:a<t) (du:t<b) (ha:rl a<=64) (ht:rl t<=64) (hb:rl b<=64):kOK (bR d a t b) d:=by
 rw [aHI]
 exact auw h1 h6 ha hb cj (aGX h1 cm du ht)
theorem ay3 {d:Nat} {a t b:Rat}:∀ i,i+1<=d+1->dk (bR d a t b) (i+1)=[a]
 | 0,_=>by rw [dk,if_pos (.inl rfl),eT _ _ _ _ _ ae,if_pos ae];rfl
 | i+1,h=>by
  rw [adJ ae (by rw [eT _ _ _ _ _ ae,eT _ _ _ _ _ ae,if_pos ae,if_pos ae]),ay3 i ae]
theorem aJp {d:Nat} {a t b:Rat} (cm:a<t):dk (bR d a t b) (d+2)=[a,t]:=by
 rw [ajI ae (by rw [eT _ _ _ _ _ ae,eT _ _ _ _ _ ae,if_neg ae,if_pos ae,if_pos ae];grind),ay3 d ae,eT _ _ _ _ _ ae,if_neg ae,if_pos ae];rfl
theorem avX {d:Nat} {a t b:Rat} (cm:a<t) (du:t<b):∀ i,i+1<=d+1->dk (bR d a t b) (d+2+(i+1))=[a,t,b]
 | 0,_=>by
  rw [<-p8,ajI ae (by rw [eT _ _ _ _ _ ae,eT _ _ _ _ _ ae,if_neg ae,if_neg ae,if_neg ae,if_pos ae];grind),mS,aJp cm,eT _ _ _ _ _ ae,if_neg ae,if_neg ae];rfl
 | i+1,h=>by
  rw [<-p8,adJ ae (by rw [eT _ _ _ _ _ ae,eT _ _ _ _ _ ae,if_neg ae,if_neg ae,if_neg ae,if_neg ae]),avX cm du i ae]
theorem aB9 {d:Nat} {a t b:Rat} (cm:a<t) (du:t<b):dk (bR d a t b) (bR d a t b).length=[a,t,b]:=by
 have:=avX (d:=d) cm du d (bq _)
 rwa [show d+2+(d+1)=(bR d a t b).length by rw [pJ];omega] at this
theorem aJ5 {x y f:Rat} (h0:0<=f) (h1:f<=1) (hx:0<x) (hy:0<y):0<x+f*(y-x):=by
 rcases adq (a:=x) (b:=y) with g | g
 ·have:=iN h0 (show 0<=y-x by grind)
  grind
 ·have:=iN (show 0<=1-f by grind) (show 0<=x-y by grind)
  grind
theorem aB4 {f:Nat->Rat} {v:List Rat} {j:Nat} (hf:∀ i,j<i->i<v.length->0<=f i/\f i<=1) (hv:∀ x∈v,0<x):∀ x∈rq f v j,0<x:=fun x hx=>by
 obtain⟨i,hi,rfl⟩:=afW hx
 rw [vu] at hi
 rw [u6 f v j i hi]
 have a:=hv _ (dK hi)
 split
 ·rename_i g
  have h0:=hf i g hi
  have b:=hv _ (dK (show i-1<v.length by omega))
  exact aJ5 h0.1 h0.2 b a
 ·exact a
theorem aq6 {F:Nat->Nat->Rat} {v:List Rat} {n:Nat} (hF:∀ r i,r<n->r<i->i<v.length->0<=F r i/\F r i<=1) (hv:∀ x∈v,0<x):∀ r,r<=n->∀ x∈cG F v r,0<x
 | 0,_=>hv
 | r+1,h=>aB4 (fun i h1 h2=>hF r i ae h1 (by rwa [uC] at h2)) (aq6 hF hv r ae)
theorem cH.scale {D N E:Nat} {x:Rat} (h:cH D N x):cH (D*E) (N*E) x:=by
 obtain⟨z,e,g⟩:=h
 refine⟨z*(E:Int),?_,?_⟩
 ·rw [abm,<-wk,e,sO]
 ·rw [acX,agE];exact fU _ g
theorem aDX {D N E:Nat} {x y f:Rat} (hf:uQ E f) (hx:cH D N x) (hy:cH D N y):cH (D*E) (N*E) (x+f*(y-x)):=by
 obtain⟨α,β,e1,e2⟩:=hf
 have es:=uQ.sum e1 e2
 obtain⟨z,f1,g1⟩:=hx
 obtain⟨u,f2,g2⟩:=hy
 refine⟨(β:Int)*z+(α:Int)*u,?_,?_⟩
 ·rw [abm,abD,sO,sO,<-e1,<-e2,<-f1,<-f2]
  grind
 ·have h1:=ak7 ((β:Int)*z) ((α:Int)*u)
  rw [acX,acX,agE,agE] at h1
  have h2:=kv β g1
  have h3:=kv α g2
  have h4:N*E=β*N+α*N:=by rw [<-es,fA,iA,qB]
  omega
theorem aF1 {f:Nat->Rat} {v:List Rat} {j D N E:Nat} (hf:∀ i,j<i->i<v.length->uQ E (f i)) (hv:∀ x∈v,cH D N x):∀ x∈rq f v j,cH (D*E) (N*E) x:=fun x hx=>by
 obtain⟨i,hi,rfl⟩:=afW hx
 rw [vu] at hi
 rw [u6 f v j i hi]
 have a:=hv _ (dK hi)
 split
 ·rename_i g
  exact aDX (hf i g hi) (hv _ (dK (show i-1<v.length by omega))) a
 ·exact a.scale
theorem avf {F:Nat->Nat->Rat} {v:List Rat} {n D N E:Nat} (hF:∀ r i,r<n->r<i->i<v.length->uQ E (F r i)) (hv:∀ x∈v,cH D N x):∀ r,r<=n->∀ x∈cG F v r,cH (D*E ^ r) (N*E ^ r) x
 | 0,_=>fun x hx=>by simpa using hv x hx
 | r+1,h=>fun x hx=>by
  rw [jt,<-fM,<-fM]
  exact aF1 (fun i h1 h2=>hF r i ae h1 (by rwa [uC] at h2)) (avf hF hv r ae) x hx
theorem akA {d:Nat} {a t b:Rat} {args:List Rat} (cm:a<t) (du:t<b) (ha:∀ r,r<d->a<=args.getD r 0/\args.getD r 0<=t) {r j:Nat} (hr:r<d) (hj:r<j) (hd:j<d+1):0<=gF (bR d a t b) d d args r j/\gF (bR d a t b) d d args r j<=1:=by
 have e0:(bR d a t b).getD (d-d+j) 0=a:=by rw [eT _ _ _ _ _ ae,if_pos ae]
 have hK:t<=(bR d a t b).getD (d+j-r) 0:=by
  rw [eT _ _ _ _ _ ae,if_neg ae]
  split
  ·exact gf
  ·exact ib du
 have h:=ha r hr
 unfold gF
 rw [e0]
 exact zh cj h.1 cj
theorem awY {d:Nat} {a t b:Rat} {args:List Rat} (cm:a<t) (du:t<b) (ha:∀ r,r<d->t<=args.getD r 0/\args.getD r 0<=b) {r j:Nat} (hr:r<d) (hj:r<j) (hd:j<d+1):0<=gF (bR d a t b) d (d+1) args r j/\gF (bR d a t b) d (d+1) args r j<=1:=by
 have e0:(bR d a t b).getD (d+1-d+j) 0<=t:=by
  rw [eT _ _ _ _ _ ae]
  split
  ·exact ib cm
  ·rw [if_pos ae];exact gf
 have hK:(bR d a t b).getD (d+1+j-r) 0=b:=by rw [eT _ _ _ _ _ ae,if_neg ae,if_neg ae]
 have h:=ha r hr
 unfold gF
 rw [hK]
 exact zh cj cj h.2
theorem ahS {n m r:Nat} {x y:Rat} (h:r<n+m):(ay n x++ay m y).getD r 0=x\/(ay n x++ay m y).getD r 0=y:=by
 have hm:(ay n x++ay m y).getD r 0∈ay n x++ay m y:=dK nH
 rcases o8.1 hm with g | g
 ·exact .inl (sZ.1 g).2
 ·exact .inr (sZ.1 g).2
theorem aeO {k:List Rat} {d pc:Nat} {v args:List Rat} (hv:∀ x∈v,0<x) (hl:pc+1<=v.length) (hp:d<=pc) (hF:∀ r j,r<d->r<j->j<d+1->0<=gF k d pc args r j/\gF k d pc args r j<=1):0<cZ k d pc v args:=by
 unfold cZ
 have hlen:((v.drop (pc-d)).take (d+1)).length=d+1:=by rw [eP,lg];omega
 refine aq6 (n:=d) (fun r i h1 h2 h3=>hF r i h1 h2 ae) (fun x hx=>hv x (wg (wh hx))) d (bq _) _ (dK ?_)
 rw [uC,hlen];omega
theorem afO {d:Nat} {a t b:Rat} {C:List Q4} (cm:a<t) (du:t<b) (hC:C.length=d+2) (hw:∀ q∈C,0<q.w):∀ q∈kj d a t b C,0<q.w:=fun q hq=>by
 obtain⟨j,hj,rfl⟩:=cQ.1 hq
 have hj:j<d+1:=qy.1 hj
 refine aeO (fun x hx=>?_) kR (bq _) (fun r i h1 h2 h3=>akA cm du (fun r hr=>?_) h1 h2 h3)
 ·obtain⟨z,hz,rfl⟩:=cQ.1 hx;exact hw z hz
 ·rcases ahS (n:=d-j) (m:=j) (x:=a) (y:=t) (r:=r) ae with e | e<;>rw [e]<;>constructor<;>grind
theorem aeV {d:Nat} {a t b:Rat} {C:List Q4} (cm:a<t) (du:t<b) (hC:C.length=d+2) (hw:∀ q∈C,0<q.w):∀ q∈km d a t b C,0<q.w:=fun q hq=>by
 obtain⟨i,hi,rfl⟩:=cQ.1 hq
 have hi:i<d+1:=qy.1 hi
 have hwm:∀ x∈C.map (·.w),0<x:=fun x hx=>by obtain⟨z,hz,rfl⟩:=cQ.1 hx;exact hw z hz
 by_cases c:i=0
 ·rw [if_pos c]
  refine aeO hwm kR (bq _) (fun r j h1 h2 h3=>akA cm du (fun r hr=>?_) h1 h2 h3)
  subst c
  rcases ahS (n:=d-0) (m:=0) (x:=t) (y:=b) (r:=r) ae with e | e
  ·rw [e];constructor<;>grind
  ·have:(ay (d-0) t++ay 0 b).getD r 0=t:=by
    rw [acQ,ng]
    exact(sZ.1 (dK (p:=ay (d-0) t) (i:=r) (by simpa using hr))).2
   rw [this];constructor<;>grind
 ·rw [if_neg c]
  refine aeO hwm kR ae (fun r j h1 h2 h3=>awY cm du (fun r hr=>?_) h1 h2 h3)
  rcases ahS (n:=d-i) (m:=i) (x:=t) (y:=b) (r:=r) ae with e | e<;>rw [e]<;>constructor<;>grind
theorem uQ.scale {E F:Nat} {x:Rat} (h:uQ E x):uQ (E*F) x:=by
 obtain⟨α,β,e1,e2⟩:=h
 refine⟨α*F,β*F,?_,?_⟩
 ·rw [abm,abm,<-wk,e1]
 ·rw [abm,abm,<-wk,e2]
theorem aza {x p q:Rat} {M:Nat} {X P Q:Int} (hM:0<M) (hx:x*((M:Int):Rat)=(X:Rat)) (hp:p*((M:Int):Rat)=(P:Rat)) (hq:q*((M:Int):Rat)=(Q:Rat)) (h1:p<=x) (h2:x<=q) (hpq:p<q):uQ (Q-P).toNat ((x-p)/(q-p)):=by
 have hm:=ae0 hM
 have hn:q-p≠0:=by grind
 have a1:((X-P:Int):Rat)=(x-p)*((M:Int):Rat):=by rw [afw,<-hx,<-hp];grind
 have a2:((Q-X:Int):Rat)=(q-x)*((M:Int):Rat):=by rw [afw,<-hx,<-hq];grind
 have a3:((Q-P:Int):Rat)=(q-p)*((M:Int):Rat):=by rw [afw,<-hp,<-hq];grind
 have z1:0<=X-P:=z8.1 (by rw [a1];exact iN cj (ib hm))
 have z2:0<=Q-X:=z8.1 (by rw [a2];exact iN cj (ib hm))
 have z3:0<=Q-P:=by omega
 have e:=kf (a:=x-p) hn
 refine⟨(X-P).toNat,(Q-X).toNat,?_,?_⟩
 ·rw [yK z3,yK z1,a3,a1,<-wk,e]
 ·rw [yK z3,yK z2,a3,a2,<-wk]
  have:(1-(x-p)/(q-p))*(q-p)=(q-p)-(x-p)/(q-p)*(q-p):=by grind
  rw [this,e]
  grind
theorem ak1 {k:List Rat} {d pc D N E:Nat} {v args:List Rat} (hv:∀ x∈v,cH D N x) (hl:pc+1<=v.length) (hp:d<=pc) (hF:∀ r j,r<d->r<j->j<d+1->uQ E (gF k d pc args r j)):cH (D*E ^ d) (N*E ^ d) (cZ k d pc v args):=by
 unfold cZ
 have hlen:((v.drop (pc-d)).take (d+1)).length=d+1:=by rw [eP,lg];omega
 refine avf (n:=d) (fun r i h1 h2 h3=>hF r i h1 h2 ae) (fun x hx=>hv x (wg (wh hx))) d (bq _) _ (dK ?_)
 rw [uC,hlen];omega
theorem abe {n r:Nat} {x:Rat} (h:r<n):(ay n x).getD r 0=x:=by
 rw [bp,adP,if_pos h];rfl
theorem as3 {k:List Rat} {d pc:Nat} {t:Rat} {v:List Rat} (hv:v.length=d+1) (hp:d<=pc) (hs:∀ i j,i<=pc->pc<j->j<=pc+d->k.getD i 0≠k.getD j 0):∀ e,e<=d ->
  sm (e+1) (fun j=>fC k pc t e (pc-e+j)*(cG (gF k d pc (ay d t)) v (d-e)).getD (d-e+j) 0)=(cG (gF k d pc (ay d t)) v d).getD d 0
 | 0,_=>by
  show 0+fC k pc t 0 (pc-0+0)*_=_
  rw [fC,if_pos ae,ayq,ph]
  rfl
 | e+1,he=>by
  rw [<-as3 (t:=t) hv hp hs e ae]
  obtain⟨C,hC⟩:∃ C,C=cG (gF k d pc (ay d t)) v (d-(e+1)):=⟨_,rfl⟩
  have hCl:C.length=d+1:=by rw [hC,uC,hv]
  obtain⟨N,hN⟩:∃ N:Nat->Rat,N=fun j=>fC k pc t e (pc-e+j):=⟨_,rfl⟩
  obtain⟨A,hA⟩:∃ A:Nat->Rat,A=fun j=>(t-k.getD (pc-e+j) 0)/(k.getD (pc+j+1) 0-k.getD (pc-e+j) 0):=⟨_,rfl⟩
  have hC':∀ j,j<=e->(cG (gF k d pc (ay d t)) v (d-e)).getD (d-e+j) 0=C.getD (d-(e+1)+j) 0+A j*(C.getD (d-(e+1)+(j+1)) 0-C.getD (d-(e+1)+j) 0):=fun j hj=>by
   rw [show d-e=d-(e+1)+1 by omega,cG,<-hC,u6 _ _ _ _ ae,if_pos ae,hA,gF,abe ae,show d-(e+1)+1+j-1=d-(e+1)+j by omega,show d-(e+1)+(j+1)=d-(e+1)+1+j by omega,show pc-d+(d-(e+1)+1+j)=pc-e+j by omega,show pc+(d-(e+1)+1+j)-(d-(e+1))=pc+j+1 by omega]
  have dj:∀ j,j<=e+1->fC k pc t (e+1) (pc-(e+1)+j)=(if 1<=j then A (j-1)*N (j-1) else 0)+(if j<=e then(1-A j)*N j else 0):=fun j hj=>by
   rw [fC,if_neg ae]
   congr 1
   ·by_cases h1:1<=j
    ·rw [if_pos h1,hA,hN,show pc-(e+1)+j+(e+1)=pc+(j-1)+1 by omega,show pc-(e+1)+j=pc-e+(j-1) by omega]
    ·rw [if_neg h1]
     have hz:fC k pc t e (pc-(e+1)+j)=0:=by
      cases e with
      | zero=>rw [fC,if_neg ae]
      | succ e=>rw [fC,if_pos (.inr ae)]
     rw [hz,xi]
   ·by_cases h1:j<=e
    ·rw [if_pos h1,hA,hN,show pc-(e+1)+j+(e+1)+1=pc+j+1 by omega,show pc-(e+1)+j+1=pc-e+j by omega]
     congr 1
     have aX:=hs (pc-e+j) (pc+j+1) ae ae ae
     have c1:(t-k.getD (pc-e+j) 0)/(k.getD (pc+j+1) 0-k.getD (pc-e+j) 0)*(k.getD (pc+j+1) 0-k.getD (pc-e+j) 0)=t-k.getD (pc-e+j) 0:=kf cj
     have c2:k.getD (pc+j+1) 0-t=(1-(t-k.getD (pc-e+j) 0)/(k.getD (pc+j+1) 0-k.getD (pc-e+j) 0))*(k.getD (pc+j+1) 0-k.getD (pc-e+j) 0):=by grind
     rw [c2,vO cj]
    ·rw [if_neg h1]
     have hz:fC k pc t e (pc-(e+1)+j+1)=0:=by
      cases e with
      | zero=>rw [fC,if_neg ae]
      | succ e=>rw [fC,if_pos (.inl ae)]
     rw [hz,xi]
  have e1:sm (e+1+1) (fun j=>fC k pc t (e+1) (pc-(e+1)+j)*C.getD (d-(e+1)+j) 0) =
    sm (e+2) (fun j=>(if 1<=j then A (j-1)*N (j-1)*C.getD (d-(e+1)+j) 0 else 0))+sm (e+2) (fun j=>if j<=e then(1-A j)*N j*C.getD (d-(e+1)+j) 0 else 0):=by
   rw [<-aeM]
   refine uc _ _ _ fun j hj=>?_
   rw [dj j ae]
   split<;>split<;>grind
  have e2:sm (e+2) (fun j=>(if 1<=j then A (j-1)*N (j-1)*C.getD (d-(e+1)+j) 0 else 0))=sm (e+1) (fun j=>A j*N j*C.getD (d-(e+1)+(j+1)) 0):=by
   rw [afF,if_neg ae,ayq]
   refine uc _ _ _ fun j hj=>?_
   rw [if_pos ae,mi]
  have e3:sm (e+2) (fun j=>if j<=e then(1-A j)*N j*C.getD (d-(e+1)+j) 0 else 0)=sm (e+1) (fun j=>(1-A j)*N j*C.getD (d-(e+1)+j) 0):=by
   rw [sm,if_neg ae,kP]
   refine uc _ _ _ fun j hj=>?_
   rw [if_pos ae]
  rw [<-hC,e1,e2,e3,<-aeM]
  refine uc _ _ _ fun j hj=>?_
  rw [hC' j ae,show fC k pc t e (pc-e+j)=N j by rw [hN]]
  grind
theorem ad3 {k:List Rat} {d pc:Nat} {t:Rat} {v:List Rat} (hv:pc+1<=v.length) (hp:d<=pc) (hs:∀ i j,i<=pc->pc<j->j<=pc+d->k.getD i 0≠k.getD j 0) :
  sm (d+1) (fun j=>fC k pc t d (pc-d+j)*v.getD (pc-d+j) 0)=cZ k d pc v (ay d t):=by
 unfold cZ
 rw [<-as3 (t:=t) (by rw [eP,lg];omega) hp hs d (bq _)]
 refine uc _ _ _ fun j hj=>?_
 rw [qn,cG,fF]
 congr 1
 simp only [bp,List.getElem?_take,tc]
 rw [if_pos hj]
theorem acb (F:Nat->Nat->Rat) (a b:Rat):(cG F [a,b] 1).getD 1 0=a+F 0 1*(b-a):=rfl
theorem aan (F:Nat->Nat->Rat) (a b c:Rat):(cG F [a,b,c] 2).getD 2 0=(a+F 0 1*(b-a))+F 1 2*((b+F 0 2*(c-b))-(a+F 0 1*(b-a))):=rfl
theorem wW (F:Nat->Nat->Rat) (a b c d:Rat):(cG F [a,b,c,d] 3).getD 3 0 =
  ((a+F 0 1*(b-a))+F 1 2*((b+F 0 2*(c-b))-(a+F 0 1*(b-a))))+F 2 3*(((b+F 0 2*(c-b))+F 1 3*((c+F 0 3*(d-c))-(b+F 0 2*(c-b))))-((a+F 0 1*(b-a))+F 1 2*((b+F 0 2*(c-b))-(a+F 0 1*(b-a))))):=rfl
theorem aiN {F G:Nat->Nat->Rat} {v:List Rat}:∀ n,(∀ r j,r<n->r<j->j<v.length->F r j=G r j)->cG F v n=cG G v n
 | 0,_=>rfl
 | n+1,h=>by
  rw [cG,cG,aiN n fun r j h1 h2 h3=>h r j ae h2 h3]
  unfold rq
  refine rz fun i hi=>?_
  have hi:=qy.1 hi
  rw [uC] at hi
  split
  ·rename_i g;rw [h n i ae g hi]
  ·rfl
theorem apG {n m r:Nat} {x y:Rat} (h:r<n+m):(ay n x++ay m y).getD r 0=if r<n then x else y:=by
 rw [bp,List.getElem?_append]
 simp only [tT]
 split
 ·rw [adP,if_pos (by assumption)];rfl
 ·rw [adP,if_pos ae];rfl
def ug (q:Rat) (X:Nat->Rat) (r j:Nat):Rat:=if j=r+1 then X r else X r*q
def yl (d:Nat) (q:Rat) (X:Nat->Rat) (r j:Nat):Rat:=if j=d then X r else q+X r*(1-q)
theorem aoi {d:Nat} {a t b:Rat} (cm:a<t) (cL:a<b) {args:List Rat} {r j:Nat} (hr:r<d) (hj:r<j) (hd:j<d+1):gF (bR d a t b) d d args r j=ug ((t-a)/(b-a)) (fun r=>(args.getD r 0-a)/(t-a)) r j:=by
 unfold gF ug
 rw [eT _ _ _ _ _ ae,if_pos ae,eT _ _ _ _ _ ae,if_neg ae]
 have h1:t-a≠0:=by grind
 have h2:b-a≠0:=by grind
 by_cases h:j=r+1
 ·rw [if_pos ae,if_pos h]
 ·rw [if_neg ae,if_neg h]
  grind
theorem auX {d:Nat} {a t b:Rat} (du:t<b) (cL:a<b) {args:List Rat} {r j:Nat} (hr:r<d) (hj:r<j) (hd:j<d+1):gF (bR d a t b) d (d+1) args r j=yl d ((t-a)/(b-a)) (fun r=>(args.getD r 0-t)/(b-t)) r j:=by
 unfold gF yl
 have eh:(bR d a t b).getD (d+1+j-r) 0=b:=by rw [eT _ _ _ _ _ ae,if_neg ae,if_neg ae]
 have el:(bR d a t b).getD (d+1-d+j) 0=if j=d then t else a:=by
  rw [eT _ _ _ _ _ ae]
  by_cases h:j=d
  ·rw [if_neg ae,if_pos ae,if_pos h]
  ·rw [if_pos ae,if_neg h]
 rw [eh,el]
 have h1:b-t≠0:=by grind
 have h2:b-a≠0:=by grind
 by_cases h:j=d
 ·rw [if_pos h,if_pos h]
 ·rw [if_neg h,if_neg h]
  show (args.getD r 0-a)/(b-a)=(t-a)/(b-a)+(args.getD r 0-t)/(b-t)*(1-(t-a)/(b-a))
  generalize args.getD r 0=x
  clear eh el
  grind
theorem akv {d:Nat} {a t b:Rat} (cm:a<t) (cL:a<b) {args v:List Rat} {X:Nat->Rat} (hX:∀ r,r<d->(args.getD r 0-a)/(t-a)=X r) (hv:d+1<=v.length):cZ (bR d a t b) d d v args=(cG (ug ((t-a)/(b-a)) X) (v.take (d+1)) d).getD d 0:=by
 unfold cZ
 rw [qn,mn]
 rw [aiN d fun r j h1 h2 h3=>?_]
 rw [eP] at h3
 rw [aoi cm cL h1 h2 ae]
 unfold ug
 simp only [hX r h1]
theorem awK {d:Nat} {a t b:Rat} (du:t<b) (cL:a<b) {args v:List Rat} {X:Nat->Rat} (hX:∀ r,r<d->(args.getD r 0-t)/(b-t)=X r) (hv:d+2<=v.length):cZ (bR d a t b) d (d+1) v args=(cG (yl d ((t-a)/(b-a)) X) ((v.drop 1).take (d+1)) d).getD d 0:=by
 unfold cZ
 rw [show d+1-d=1 by omega]
 rw [aiN d fun r j h1 h2 h3=>?_]
 rw [eP,lg] at h3
 rw [auX du cL h1 h2 ae]
 unfold yl
 simp only [hX r h1]
theorem acG {a b s:Rat} (h:a<b) (hs:s=b):(s-a)/(b-a)=1:=by
 have:b-a≠0:=by grind
 subst hs;grind
theorem adQ {a b s:Rat} (h:a<b) (hs:s=a):(s-a)/(b-a)=0:=by
 have:b-a≠0:=by grind
 subst hs;grind
theorem aHZ {d:Nat} {a t b s:Rat} (h1:1<=d) (h3:d<=3) (cm:a<t) (cL:a<b) {v:List Rat} (hv:v.length=d+2) :
  fE (1-(s-a)/(t-a)) ((s-a)/(t-a)) d (fun i=>cZ (bR d a t b) d d v (ay (d-i) a++ay i t))=cZ (bR d a t b) d d v (ay d s):=by
 have hX:∀ i,i<=d->∀ r,r<d->((ay (d-i) a++ay i t).getD r 0-a)/(t-a)=(fun r=>if r<d-i then(0:Rat) else 1) r:=fun i hi r hr=>by
  rw [apG ae]
  by_cases c:r<d-i
  ·simp only [if_pos c];exact adQ cm rfl
  ·simp only [if_neg c];exact acG cm rfl
 have hS:∀ r,r<d->((ay d s).getD r 0-a)/(t-a)=(fun _=>(s-a)/(t-a)) r:=fun r hr=>by rw [abe hr]
 rw [akv cm cL hS ae]
 have e:∀ i,i<=d->cZ (bR d a t b) d d v (ay (d-i) a++ay i t)=(cG (ug ((t-a)/(b-a)) (fun r=>if r<d-i then(0:Rat) else 1)) (v.take (d+1)) d).getD d 0:=fun i hi=>akv cm cL (hX i hi) ae
 generalize (s-a)/(t-a)=x at *
 generalize (t-a)/(b-a)=q at *
 match d,h1,h3,v,hv with
 | 1,_,_,[v0,v1,v2],_ =>
  simp only [fE]
  rw [e 0 ae,e 1 ae]
  show (1-x)*(cG _ [v0,v1] 1).getD 1 0+x*(cG _ [v0,v1] 1).getD 1 0=(cG _ [v0,v1] 1).getD 1 0
  rw [acb,acb,acb]
  simp [ug]
  grind
 | 2,_,_,[v0,v1,v2,v3],_ =>
  simp only [fE]
  rw [e 0 ae,e 1 ae,e 2 ae]
  show (1-x)*((1-x)*(cG _ [v0,v1,v2] 2).getD 2 0+x*(cG _ [v0,v1,v2] 2).getD 2 0)+x*((1-x)*(cG _ [v0,v1,v2] 2).getD 2 0+x*(cG _ [v0,v1,v2] 2).getD 2 0)=(cG _ [v0,v1,v2] 2).getD 2 0
  rw [aan,aan,aan,aan]
  simp [ug]
  grind
 | 3,_,_,[v0,v1,v2,v3,v4],_ =>
  simp only [fE]
  rw [e 0 ae,e 1 ae,e 2 ae,e 3 ae]
  show (1-x)*((1-x)*((1-x)*(cG _ [v0,v1,v2,v3] 3).getD 3 0+x*(cG _ [v0,v1,v2,v3] 3).getD 3 0)+x*((1-x)*(cG _ [v0,v1,v2,v3] 3).getD 3 0+x*(cG _ [v0,v1,v2,v3] 3).getD 3 0))+x*((1-x)*((1-x)*(cG _ [v0,v1,v2,v3] 3).getD 3 0+x*(cG _ [v0,v1,v2,v3] 3).getD 3 0)+x*((1-x)*(cG _ [v0,v1,v2,v3] 3).getD 3 0+x*(cG _ [v0,v1,v2,v3] 3).getD 3 0))=(cG _ [v0,v1,v2,v3] 3).getD 3 0
  rw [wW,wW,wW,wW,wW]
  simp [ug]
  grind
theorem aq4 {d:Nat} {a t b s:Rat} (h1:1<=d) (h3:d<=3) (cm:a<t) (du:t<b) {v:List Rat} (hv:v.length=d+2) :
  fE (1-(s-t)/(b-t)) ((s-t)/(b-t)) d (fun i=>cZ (bR d a t b) d (if i=0 then d else d+1) v (ay (d-i) t++ay i b))=cZ (bR d a t b) d (d+1) v (ay d s):=by
 have cL:a<b:=by grind
 have hX:∀ i,i<=d->∀ r,r<d->((ay (d-i) t++ay i b).getD r 0-t)/(b-t)=(fun r=>if r<d-i then(0:Rat) else 1) r:=fun i hi r hr=>by
  rw [apG ae]
  by_cases c:r<d-i
  ·simp only [if_pos c];exact adQ du rfl
  ·simp only [if_neg c];exact acG du rfl
 have hS:∀ r,r<d->((ay d s).getD r 0-t)/(b-t)=(fun _=>(s-t)/(b-t)) r:=fun r hr=>by rw [abe hr]
 rw [awK du cL hS ae]
 obtain⟨f,hf⟩:∃ f:Nat->Rat,f=fun i=>cZ (bR d a t b) d (if i=0 then d else d+1) v (ay (d-i) t++ay i b):=⟨_,rfl⟩
 rw [<-hf]
 have e0:f 0=(cG (ug ((t-a)/(b-a)) (fun _=>1)) (v.take (d+1)) d).getD d 0:=by
  rw [hf]
  show cZ (bR d a t b) d (if 0=0 then d else d+1) v _=_
  rw [if_pos rfl]
  exact akv cm cL (fun r hr=>by rw [acQ,ng,acA,abe hr];exact acG cm rfl) ae
 have e:∀ i,0<i->i<=d->f i=(cG (yl d ((t-a)/(b-a)) (fun r=>if r<d-i then(0:Rat) else 1)) ((v.drop 1).take (d+1)) d).getD d 0:=fun i h0 hi=>by
  rw [hf]
  show cZ (bR d a t b) d (if i=0 then d else d+1) v _=_
  rw [if_neg ae]
  exact awK du cL (hX i hi) ae
 clear hf hX hS
 generalize (s-t)/(b-t)=x at *
 generalize (t-a)/(b-a)=q at *
 match d,h1,h3,v,hv with
 | 1,_,_,[v0,v1,v2],_ =>
  simp only [fE]
  rw [e0,e 1 ae ae]
  show (1-x)*(cG _ [v0,v1] 1).getD 1 0+x*(cG _ [v1,v2] 1).getD 1 0=(cG _ [v1,v2] 1).getD 1 0
  rw [acb,acb,acb]
  simp [ug,yl]
  grind
 | 2,_,_,[v0,v1,v2,v3],_ =>
  simp only [fE]
  rw [e0,e 1 ae ae,e 2 ae ae]
  show (1-x)*((1-x)*(cG _ [v0,v1,v2] 2).getD 2 0+x*(cG _ [v1,v2,v3] 2).getD 2 0)+x*((1-x)*(cG _ [v1,v2,v3] 2).getD 2 0+x*(cG _ [v1,v2,v3] 2).getD 2 0)=(cG _ [v1,v2,v3] 2).getD 2 0
  rw [aan,aan,aan,aan]
  simp [ug,yl]
  grind
 | 3,_,_,[v0,v1,v2,v3,v4],_ =>
  simp only [fE]
  rw [e0,e 1 ae ae,e 2 ae ae,e 3 ae ae]
  show (1-x)*((1-x)*((1-x)*(cG _ [v0,v1,v2,v3] 3).getD 3 0+x*(cG _ [v1,v2,v3,v4] 3).getD 3 0)+x*((1-x)*(cG _ [v1,v2,v3,v4] 3).getD 3 0+x*(cG _ [v1,v2,v3,v4] 3).getD 3 0))+x*((1-x)*((1-x)*(cG _ [v1,v2,v3,v4] 3).getD 3 0+x*(cG _ [v1,v2,v3,v4] 3).getD 3 0)+x*((1-x)*(cG _ [v1,v2,v3,v4] 3).getD 3 0+x*(cG _ [v1,v2,v3,v4] 3).getD 3 0))=(cG _ [v1,v2,v3,v4] 3).getD 3 0
  rw [wW,wW,wW,wW,wW]
  simp [ug,yl]
  grind
theorem alp {f:Nat->Rat} {n i:Nat} (h:i<n):((c9 n).map f).getD i 0=f i:=by
 rw [bp,g8,List.getElem?_range h];rfl
theorem ah3 {d:Nat} {a t b s:Rat} (h1:1<=d) (h3:d<=3) (cm:a<t) (cL:a<b) {v:List Rat} (hv:v.length=d+2) :
  aJ ((c9 (d+1)).map fun i=>cZ (bR d a t b) d d v (ay (d-i) a++ay i t)) ((s-a)/(t-a))=cZ (bR d a t b) d d v (ay d s):=by
 rw [mZ aM,dL,aqf,mi,<-aHZ h1 h3 cm cL hv]
 exact pn _ _ _ _ _ fun i hi=>alp ae
theorem ag9 {d:Nat} {a t b s:Rat} (h1:1<=d) (h3:d<=3) (cm:a<t) (du:t<b) {v:List Rat} (hv:v.length=d+2) :
  aJ ((c9 (d+1)).map fun i=>cZ (bR d a t b) d (if i=0 then d else d+1) v (ay (d-i) t++ay i b)) ((s-t)/(b-t))=cZ (bR d a t b) d (d+1) v (ay d s):=by
 rw [mZ aM,dL,aqf,mi,<-aq4 h1 h3 cm du hv]
 exact pn _ _ _ _ _ fun i hi=>alp ae
theorem agf {d:Nat} {a b s:Rat} (h1:1<=d) (h3:d<=3) (cL:a<b) {v:List Rat} (hv:v.length=d+1):cZ (bu d a b) d d v (ay d s)=aJ v ((s-a)/(b-a)):=by
 have e:cZ (bu d a b) d d v (ay d s)=(cG (fun _ _=>(s-a)/(b-a)) v d).getD d 0:=by
  unfold cZ
  rw [qn,mn,dg ae,aiN d fun r j g1 g2 g3=>?_]
  unfold gF
  rw [abe g1,iH _ _ _ _ ae,iH _ _ _ _ ae,if_pos ae,if_neg ae]
 rw [e,mZ ae,hv,mi]
 generalize (s-a)/(b-a)=x at *
 match d,h1,h3,v,hv with
 | 1,_,_,[v0,v1],_ =>
  rw [acb]
  show _=(1-x)*v0+x*v1
  grind
 | 2,_,_,[v0,v1,v2],_ =>
  rw [aan]
  show _=(1-x)*((1-x)*v0+x*v1)+x*((1-x)*v1+x*v2)
  grind
 | 3,_,_,[v0,v1,v2,v3],_ =>
  rw [wW]
  show _=(1-x)*((1-x)*((1-x)*v0+x*v1)+x*((1-x)*v1+x*v2))+x*((1-x)*((1-x)*v1+x*v2)+x*((1-x)*v2+x*v3))
  grind
def vi (k:List Rat) (d pc:Nat) (po:List aG) (s:Rat):V3:=jC (1/cZ k d pc (aL po) (ay d s)) ⟨cZ k d pc (a8 po 0) (ay d s),cZ k d pc (a8 po 1) (ay d s),cZ k d pc (a8 po 2) (ay d s)⟩
theorem afu {C:List Q4} (h:∀ q∈C,0<q.w):a8 (C.map dW) 0=C.map (·.x)/\a8 (C.map dW) 1=C.map (·.y)/\a8 (C.map dW) 2=C.map (·.z)/\aL (C.map dW)=C.map (·.w):=by
 have g:∀ q∈C,∀ y:Rat,q.w*(y/q.w)=y:=fun q hq y=>by
  have:=h q hq
  rw [oW];exact kf cj
 unfold a8 aL
 simp only [kU]
 refine⟨?_,?_,?_,?_⟩
 ·exact rz fun q hq=>g q hq q.x
 ·exact rz fun q hq=>g q hq q.y
 ·exact rz fun q hq=>g q hq q.z
 ·exact rz fun q hq=>rfl
theorem acT (po:List aG):(po.map cO).map (·.x)=a8 po 0/\(po.map cO).map (·.y)=a8 po 1/\(po.map cO).map (·.z)=a8 po 2/\(po.map cO).map (·.w)=aL po:=by
 unfold a8 aL
 simp only [kU]
 exact⟨rfl,rfl,rfl,rfl⟩
theorem ahx {d:Nat} {a t b:Rat} {po:List aG} (h:∀ q∈kj d a t b (po.map cO),0<q.w):∀ k,a8 ((kj d a t b (po.map cO)).map dW) k=(c9 (d+1)).map fun j=>cZ (bR d a t b) d d (a8 po k) (ay (d-j) a++ay j t):=fun k=>by
 obtain⟨n0,n1,n2,_⟩:=afu h
 obtain⟨m0,m1,m2,_⟩:=acT po
 match k with
 | 0=>rw [n0,<-m0];unfold kj;rw [kU];rfl
 | 1=>rw [n1,<-m1];unfold kj;rw [kU];rfl
 | k+2 =>
  show a8 ((kj d a t b (po.map cO)).map dW) 2=(c9 (d+1)).map fun j=>cZ (bR d a t b) d d (a8 po 2) (ay (d-j) a++ay j t)
  rw [n2,<-m2];unfold kj;rw [kU];rfl
theorem arn {d:Nat} {a t b:Rat} {po:List aG} (h:∀ q∈kj d a t b (po.map cO),0<q.w):aL ((kj d a t b (po.map cO)).map dW)=(c9 (d+1)).map fun j=>cZ (bR d a t b) d d (aL po) (ay (d-j) a++ay j t):=by
 rw [(afu h).2.2.2,<-(acT po).2.2.2];unfold kj;rw [kU];rfl
theorem ag5 {d:Nat} {a t b:Rat} {po:List aG} (h:∀ q∈km d a t b (po.map cO),0<q.w):∀ k,a8 ((km d a t b (po.map cO)).map dW) k=(c9 (d+1)).map fun j=>cZ (bR d a t b) d (if j=0 then d else d+1) (a8 po k) (ay (d-j) t++ay j b):=fun k=>by
 obtain⟨n0,n1,n2,_⟩:=afu h
 obtain⟨m0,m1,m2,_⟩:=acT po
 match k with
 | 0=>rw [n0,<-m0];unfold km;rw [kU];rfl
 | 1=>rw [n1,<-m1];unfold km;rw [kU];rfl
 | k+2 =>
  show a8 ((km d a t b (po.map cO)).map dW) 2=(c9 (d+1)).map fun j=>cZ (bR d a t b) d (if j=0 then d else d+1) (a8 po 2) (ay (d-j) t++ay j b)
  rw [n2,<-m2];unfold km;rw [kU];rfl
theorem ayw {d:Nat} {a t b:Rat} {po:List aG} (h:∀ q∈km d a t b (po.map cO),0<q.w):aL ((km d a t b (po.map cO)).map dW)=(c9 (d+1)).map fun j=>cZ (bR d a t b) d (if j=0 then d else d+1) (aL po) (ay (d-j) t++ay j b):=by
 rw [(afu h).2.2.2,<-(acT po).2.2.2];unfold km;rw [kU];rfl
theorem ast {d:Nat} {a t b s:Rat} {po:List aG} (h1:1<=d) (h3:d<=3) (cm:a<t) (cL:a<b) (hl:po.length=d+2) (h:∀ q∈kj d a t b (po.map cO),0<q.w):jq ((kj d a t b (po.map cO)).map dW) ((s-a)/(t-a))=vi (bR d a t b) d d po s:=by
 unfold jq vi
 rw [ahx h,ahx h,ahx h,arn h,ah3 h1 h3 cm cL rM,ah3 h1 h3 cm cL rM,ah3 h1 h3 cm cL rM,ah3 h1 h3 cm cL rM]
theorem asj {d:Nat} {a t b s:Rat} {po:List aG} (h1:1<=d) (h3:d<=3) (cm:a<t) (du:t<b) (hl:po.length=d+2) (h:∀ q∈km d a t b (po.map cO),0<q.w):jq ((km d a t b (po.map cO)).map dW) ((s-t)/(b-t))=vi (bR d a t b) d (d+1) po s:=by
 unfold jq vi
 rw [ag5 h,ag5 h,ag5 h,ayw h,ag9 h1 h3 cm du rM,ag9 h1 h3 cm du rM,ag9 h1 h3 cm du rM,ag9 h1 h3 cm du rM]
theorem aq9 {d:Nat} {a b s:Rat} {po:List aG} (h1:1<=d) (h3:d<=3) (cL:a<b) (hl:po.length=d+1):vi (bu d a b) d d po s=jq po ((s-a)/(b-a)):=by
 unfold jq vi
 rw [agf h1 h3 cL rM,agf h1 h3 cL rM,agf h1 h3 cL rM,agf h1 h3 cL rM]
structure jW (po:List aG) (D N:Nat):Prop where
 D0:0<D
 n:∀ k,∀ x∈a8 po k,cH D N x
 w:∀ x∈aL po,cH D N x
 p:∀ q∈po,0<q.w
theorem jW.okR {po:List aG} {D N k:Nat} (h:jW po D N) (hN:N<4294967296 ^ k) (hD:D<4294967296 ^ k) (hk:1<=k):∀ q∈po,sf k q:=fun q hq=>by
 have hp:=h.p q hq
 have hw:=h.w _ (cQ.2 ⟨q,hq,rfl⟩)
 have g:∀ j,rl (q.p.at j)<=k:=fun j=>by
  have:=(h.n j _ (cQ.2 ⟨q,hq,rfl⟩)).div hw h.D0 hN hk
  rwa [oW,vO cj] at this
 exact⟨⟨g 0,g 1,g 2⟩,hw.rl h.D0 hN hD hk,hp⟩
theorem jW.cvK {po:List aG} {d D N:Nat} (h:jW po D N) (hl:po.length=d+1):cvC po d D N:=⟨fun k i hi=>h.n k _ (dK (by rw [kY];omega)),fun i hi=>h.w _ (dK (by rw [mC];omega))⟩
theorem akQ (E:Nat):uQ E 0:=⟨0,E,by rw [vQ];rfl,by rw [show (1:Rat)-0=1 by decide +kernel,ph]⟩
theorem anI (E:Nat):uQ E 1:=⟨E,0,by rw [ph],by rw [show (1:Rat)-1=0 by decide +kernel,vQ];rfl⟩
theorem ap9 {E:Nat} {q:Rat} (h:uQ E q) {X:Nat->Rat} {r:Nat} (hX:X r=0\/X r=1) (j:Nat):uQ E (ug q X r j):=by
 unfold ug
 rcases hX with e | e<;>rw [e]
 ·split
  ·exact akQ E
  ·rw [vQ];exact akQ E
 ·split
  ·exact anI E
  ·rw [ph];exact h
theorem aB2 {E d:Nat} {q:Rat} (h:uQ E q) {X:Nat->Rat} {r:Nat} (hX:X r=0\/X r=1) (j:Nat):uQ E (yl d q X r j):=by
 unfold yl
 rcases hX with e | e<;>rw [e]
 ·split
  ·exact akQ E
  ·rw [vQ,kP];exact h
 ·split
  ·exact anI E
  ·rw [ph,show q+(1-q)=1 by grind];exact anI E
theorem awq {n m r:Nat} {x y:Rat} (sA:x<y) (h:r<n+m):((ay n x++ay m y).getD r 0-x)/(y-x)=0\/((ay n x++ay m y).getD r 0-x)/(y-x)=1:=by
 rcases ahS h with e | e<;>rw [e]
 ·exact .inl (adQ sA rfl)
 ·exact .inr (acG sA rfl)
theorem ar5 {d:Nat} {a t b:Rat} {po:List aG} {D N E:Nat} (cm:a<t) (du:t<b) (hl:po.length=d+2) (h:jW po D N) (hE0:0<E) (hE:uQ E ((t-a)/(b-a))):jW ((kj d a t b (po.map cO)).map dW) (D*E ^ d) (N*E ^ d):=by
 have cL:a<b:=by grind
 have hw:∀ q∈kj d a t b (po.map cO),0<q.w:=afO cm du (by rw [dL,hl]) fun q hq=>by
  obtain⟨z,hz,rfl⟩:=cQ.1 hq;exact h.p z hz
 have g:∀ v:List Rat,v.length=d+2->(∀ x∈v,cH D N x)->∀ x∈((c9 (d+1)).map fun j=>cZ (bR d a t b) d d v (ay (d-j) a++ay j t)),cH (D*E ^ d) (N*E ^ d) x:=fun v hv hc x hx=>by
  obtain⟨j,hj,rfl⟩:=cQ.1 hx
  have hj:=qy.1 hj
  refine ak1 hc ae (bq _) fun r i h1 h2 h3=>?_
  rw [aoi cm cL h1 h2 h3]
  exact ap9 hE (awq cm ae) _
 refine⟨mG h.D0 (my hE0),fun k=>?_,?_,fun q hq=>?_⟩
 ·rw [ahx hw];exact g _ rM (h.n k)
 ·rw [arn hw];exact g _ rM h.w
 ·obtain⟨z,hz,rfl⟩:=cQ.1 hq;exact hw z hz
theorem asH {d:Nat} {a t b:Rat} {po:List aG} {D N E:Nat} (cm:a<t) (du:t<b) (hl:po.length=d+2) (h:jW po D N) (hE0:0<E) (hE:uQ E ((t-a)/(b-a))):jW ((km d a t b (po.map cO)).map dW) (D*E ^ d) (N*E ^ d):=by
 have cL:a<b:=by grind
 have hw:∀ q∈km d a t b (po.map cO),0<q.w:=aeV cm du (by rw [dL,hl]) fun q hq=>by
  obtain⟨z,hz,rfl⟩:=cQ.1 hq;exact h.p z hz
 have g:∀ v:List Rat,v.length=d+2->(∀ x∈v,cH D N x)->∀ x∈((c9 (d+1)).map fun j=>cZ (bR d a t b) d (if j=0 then d else d+1) v (ay (d-j) t++ay j b)),cH (D*E ^ d) (N*E ^ d) x:=fun v hv hc x hx=>by
  obtain⟨j,hj,rfl⟩:=cQ.1 hx
  have hj:=qy.1 hj
  by_cases c:j=0
  ·rw [if_pos c]
   refine ak1 hc ae (bq _) fun r i h1 h2 h3=>?_
   rw [aoi cm cL h1 h2 h3]
   refine ap9 hE (.inr ?_) _
   subst c
   rw [acQ,ng,acA]
   show ((ay d t).getD r 0-a)/(t-a)=1
   rw [abe h1];exact acG cm rfl
  ·rw [if_neg c]
   refine ak1 hc ae ae fun r i h1 h2 h3=>?_
   rw [auX du cL h1 h2 h3]
   exact aB2 hE (awq du ae) _
 refine⟨mG h.D0 (my hE0),fun k=>?_,?_,fun q hq=>?_⟩
 ·rw [ag5 hw];exact g _ rM (h.n k)
 ·rw [ayw hw];exact g _ rM h.w
 ·obtain⟨z,hz,rfl⟩:=cQ.1 hq;exact hw z hz
theorem aE8 {d D N Dp:Nat} {a b:Rat} {po:List aG} (h1:1<=d) (h3:d<=3) (cL:a<b) (ha:rl a<=30) (hb:rl b<=30) (hl:po.length=d+1) (h:jW po D N) (hN:N<4294967296 ^ 80) (hD:D<4294967296 ^ 80) (wJ:Dp<=24):qK ⟨d,a,b,po⟩ Dp D N:=by
 have hp:(2 ^ Dp) ^ d<=4294967296 ^ 3:=by
  have e1:(2 ^ Dp) ^ d<=(2 ^ 32) ^ d:=axg (mh aj ae) d
  have e2:(2 ^ 32) ^ d<=(2 ^ 32) ^ 3:=mh aj h3
  exact ba e1 e2
 have g:∀ n,n<4294967296 ^ 80->n*(2 ^ Dp) ^ d<4294967296 ^ 100:=fun n hn=>by
  have e1:n*(2 ^ Dp) ^ d<=4294967296 ^ 80*4294967296 ^ 3:=mM (Nat.le_of_lt hn) hp
  refine Nat.lt_of_le_of_lt e1 ?_
  rw [<-mg]
  exact Nat.pow_lt_pow_right aj aj
 refine⟨h3,cL,ha,hb,⟨hl,h1,by show d<=6;omega,fun q hq=>?_⟩,h.cvK hl,h.D0,g N hN,g D hD⟩
 have:=h.okR hN hD aj q hq
 exact⟨this.1.le aj,ba this.2.1 aj,this.2.2⟩
structure ivK (d:Nat) (k:List Rat) (pc:Nat) (t:Rat):Prop where
 d6:d<=6
 kl:2*d+2<=k.length
 k9:k.length<=100
 kr:∀ x∈k,rl x<=100
 tr:rl t<=1000
 h1:k.getD 0 0<=t
 h2:t<=k.getD (k.length-1) 0
 p1:d<=pc
 p2:pc+d+1<k.length
 le:k.getD pc 0<=t
 gt:∀ i,pc<i->i+d+1<k.length->t<k.getD i 0
def jz (k:List Rat) (d pc:Nat) (t:Rat):List Rat:=(c9 (d+1)).map fun i=>fC k pc t d (pc-d+i)
theorem am8 (k:List Rat) (d pc:Nat) (t:Rat):(jz k d pc t).length=d+1:=by simp [jz]
theorem amU {k:List Rat} {d pc:Nat} {t:Rat} {i:Nat} (h:i<d+1):(jz k d pc t).getD i 0=fC k pc t d (pc-d+i):=alp h
theorem aKi {k:List Rat} {d pc:Nat} {t:Rat} {i:Nat} (h:i<d+1):(jz k d pc t).take i++[fC k pc t d (pc-d+i)]=(jz k d pc t).take (i+1):=by
 rw [<-amU h];exact ab6 (by rw [am8];exact h)
theorem ay4 {k:List Rat} {d pc:Nat} {t:Rat} (h:ivK d k pc t):∀ x∈jz k d pc t,rl x<=632000:=fun x hx=>by
 obtain⟨i,hi,rfl⟩:=cQ.1 hx
 have h1:=afd (at_:=pc) (R:=1000) aj (fun x hx=>ba (h.kr x hx) aj) h.tr d (pc-d+i)
 have h6:=h.d6
 have hpw:2 ^ d<=2 ^ 6:=mh aj h6
 omega
def gL (k:List Rat) (d pc:Nat) (t:Rat) (po:List aG) (c i:Nat):Rat:=sm i fun j=>(jz k d pc t).getD j 0*(if c<3 then(a8 po c).getD (pc-d+j) 0 else(aL po).getD (pc-d+j) 0)
theorem asz {k:List Rat} {d pc R:Nat} {t:Rat} {po:List aG} (h6:d<=6) (hR:R<=40000) (fT:∀ q∈po,sf R q) (hn:∀ x∈jz k d pc t,rl x<=632000) (i:Nat) (hi:i<=d+1) (c:Nat):rl (gL k d pc t po c i)<=6000000:=by
 have gn:∀ c,∀ z∈a8 po c,rl z<=100000:=fun c z hz=>by have:=aie fT c z hz;omega
 have gw:∀ z∈aL po,rl z<=100000:=fun z hz=>by have:=ahW fT z hz;omega
 have h1:=ap3 (f:=fun j=>(jz k d pc t).getD j 0*(if c<3 then(a8 po c).getD (pc-d+j) 0 else(aL po).getD (pc-d+j) 0)) (R:=732000) aj i (fun j hj=>by
  have a1:=iX aj hn j
  have a2:=iX aj (gn c) (pc-d+j)
  have a3:=iX aj gw (pc-d+j)
  have m:=df ((jz k d pc t).getD j 0) (if c<3 then(a8 po c).getD (pc-d+j) 0 else(aL po).getD (pc-d+j) 0)
  split at m<;>split<;>first | omega | contradiction)
 have h2:i*(732000+1)<=7*(732000+1):=fU _ ae
 unfold gL
 omega
theorem aDd {k:List Rat} {d pc i:Nat} {t:Rat} {po:List aG} (h:pc-d+i<po.length) :
  gL k d pc t po 0 i+(jz k d pc t).getD i 0*((po.getD (pc-d+i) default).w*(po.getD (pc-d+i) default).p.x)=gL k d pc t po 0 (i+1)/\gL k d pc t po 1 i+(jz k d pc t).getD i 0*((po.getD (pc-d+i) default).w*(po.getD (pc-d+i) default).p.y)=gL k d pc t po 1 (i+1) /\
  gL k d pc t po 2 i+(jz k d pc t).getD i 0*((po.getD (pc-d+i) default).w*(po.getD (pc-d+i) default).p.z)=gL k d pc t po 2 (i+1)/\gL k d pc t po 3 i+(jz k d pc t).getD i 0*(po.getD (pc-d+i) default).w=gL k d pc t po 3 (i+1):=by
 refine⟨?_,?_,?_,?_⟩
 ·unfold gL;rw [sm,if_pos aj,xo h];rfl
 ·unfold gL;rw [sm,if_pos aj,xo h];rfl
 ·unfold gL;rw [sm,if_pos aj,xo h];rfl
 ·unfold gL;rw [sm,if_neg aj,aav h]
theorem aJq {k:List Rat} {d pc:Nat} {t:Rat} {po:List aG} (hp:d<=pc) (hl:pc+1<=po.length) (hs:∀ i j,i<=pc->pc<j->j<=pc+d->k.getD i 0≠k.getD j 0):(∀ c,c<3->gL k d pc t po c (d+1)=cZ k d pc (a8 po c) (ay d t))/\gL k d pc t po 3 (d+1)=cZ k d pc (aL po) (ay d t):=by
 refine⟨fun c hc=>?_,?_⟩
 ·rw [<-ad3 (t:=t) (v:=a8 po c) (by rw [kY];exact hl) hp hs]
  unfold gL
  exact uc _ _ _ fun i hi=>by rw [if_pos hc,amU hi]
 ·rw [<-ad3 (t:=t) (v:=aL po) (by rw [mC];exact hl) hp hs]
  unfold gL
  exact uc _ _ _ fun i hi=>by rw [if_neg aj,amU hi]
open iy in
theorem aAU (q:aG) (R:Nat) (hR:R<=1000000) (h:sf R q):ax an 143 [aY q] (.agg [ah (q.w*q.p.x),ah (q.w*q.p.y),ah (q.w*q.p.z),ah q.w]):=by
 obtain⟨hp,hw,ni⟩:=h
 refine aW Tryz.func143 (ht:=(fun g=>LV.di g _ pu)) ?_
 refine bG ?_
 refine cp au (ars q.w q.p R ae hw hp) ?_
 refine pU ?_
 exact iG [] rfl rfl rfl cs (dZ cs rfl) aok (.pure pu)
namespace att
theorem aO {p q:Prop} (k:q) (e:p=q:=by simp only [e1,e2,e3,e4,p1,p2,p3,q1,q2,q3,l1,t0,t1,r1,r2,r3,r4,Nat.zero_add,Nat.reduceMul,Nat.reduceAdd,b1,b2,b3,b4,b5,b6,i1,i2,i3,i4,i5,i6,Nat.reduceBEq,uK,List.length_map,cN,List.set_cons_zero,List.set_cons_succ,Nat.reduceEqDiff,reduceIte,if_true,if_false,eN,eY,aV bl,aV bF,aV ar,cU,eu,LV.kill,bX];exact rfl):p:=e.mpr k
end att
open att in
theorem ao9 (d:Nat) (k:List Rat) (pc:Nat) (t:Rat) (hI:ivK d k pc t):ax an 63 [.list 3 (k.map ah),ai d,ah t] (.bf [ai pc,iL 0]):=by
 obtain⟨hd,iI,hk9,kN,ht,h1,h2,kE,sE,hle,hgt⟩:=hI
 have sX:∀ i,rl (k.getD i 0)<=100:=iX aj kN
 have g0:=sX 0
 have g9:=sX (k.length-1)
 have c1:¬gJ t (k.getD 0 0)<0:=fun e=>by have:=wD.2 h1;omega
 have c2:¬gJ t (k.getD (k.length-1) 0) > 0:=fun e=>by have:=afm.2 h2;omega
 have uK:((k.length:Nat):Int).toNat-1=k.length-1:=by omega
 refine aW Tryz.func63 (ht:=(kL rfl rfl)) ?_
 refine bC ?_
 refine ak rfl lK ?_
 refine bc ?_
 refine a9 15 aq ?_
 refine aA ?_
 try simp only [t1,cN]
 refine cp au (akb t (k.getD 0 0) ae) ?_
 refine aT ?_
 refine ez 19 rfl ?_ ?_<;>intro agV h19
 ·omega
 ·refine bc ?_
  try simp only [t1,cN,uK]
  refine cp au (akb t (k.getD (k.length-1) 0) ae) ?_
  refine aA ?_
  refine aH rfl ?_ ?_<;>intro zu h27
  ·omega
  ·refine aC ?_
   refine ak rfl (.bin rfl rfl (aam (c:=k.length-1-d) ae ae)) ?_
   refine ak rfl lK ?_
   refine bc ?_
   refine dV (fun(i:Nat) L=>((((St.mk L.slot (hp [(5,⟨3,[ah t],true⟩)])).put (some 0) (.list 3 (k.map ah))).put (some 5) (.aD 5 3 0 0)).put (some 9) (ai i))) (fun i=>pc<=i/\i+d+1<k.length) (fun i=>i) (k.length-1-d-1) ⟨ae,ae⟩ ?_
   rintro i L1 ⟨tK,dR⟩
   refine aT ?_
   refine a9 11 aq ?_
   refine aQ ?_
   refine ez 34 rfl ?_ ?_<;>intro aiB h34
   ·refine bc ?_
    try simp only [t1,cN,ab0]
    refine cp au (akb t (k.getD i 0) (by have:=sX i;omega)) ?_
    refine aA ?_
    refine aH rfl ?_ ?_<;>intro aHt h42
    ·have bH:t<k.getD i 0:=adU.1 h42
     have aX:i≠pc:=fun e=>by subst e;grind
     refine bc ?_
     refine ak rfl lK ?_
     refine aA ?_
     exact jL (i-1) ⟨ae,ae⟩
    ·obtain rfl:pc=i:=by
      rcases Nat.lt_or_ge pc i with g | g
      ·have e1:=adU.2 (hgt i g dR)
       exfalso
       first | omega | exact h42 e1
      ·omega
     refine dH ?_
     exact yI
   ·obtain rfl:pc=i:=by omega
    refine bc ?_
    try simp only [t1,cN,ab0]
    refine pU ?_
    exact yI
namespace auF
theorem aO {p q:Prop} (k:q) (e:p=q:=by simp only [e1,e2,e3,e4,p1,p2,p3,q1,q2,q3,l1,t0,t1,r1,r2,r3,r4,Nat.zero_add,Nat.reduceMul,Nat.reduceAdd,b1,b2,b3,b4,b5,b6,i1,i2,i3,i4,i5,i6,Nat.reduceBEq,iS,gZ,List.length_map,cN,nt,nm,jK,List.length_cons,List.length_nil,List.nil_append,List.map_nil,List.take_nil,List.append_nil,List.set_cons_zero,List.set_cons_succ,Nat.reduceEqDiff,reduceIte,if_true,if_false,eN,eY,aV bl,aV bF,aV ar,cU,eu,LV.kill,bX];exact rfl):p:=e.mpr k
end auF
open auF in
theorem aKg (d:Nat) (k:List Rat) (pc:Nat) (t:Rat) (hI:ivK d k pc t):ax an 142 [.list 3 (k.map ah),ai d,ah t] (.bf [ai (pc-d),.list 3 ((jz k d pc t).map ah),iL 0]):=by
 have sv:=hI
 obtain⟨hd,iI,hk9,kN,ht,h1,h2,kE,sE,hle,hgt⟩:=hI
 have sX:∀ i,rl (k.getD i 0)<=100:=iX aj kN
 have nj:=am8 k d pc t
 refine aW Tryz.func142 (ht:=(aii rfl (fc ar _ _) rfl)) ?_
 have iS:True:=trivial
 have gZ:True:=trivial
 refine dH ?_
 refine cp ig (ao9 d k pc t sv) ?_
 refine dM ?_
 refine aH rfl ?_ ?_<;>intro aa0 h21
 ·first | exact h21.elim | cases aa0
 ·refine bG ?_
  refine ak rfl (.bin rfl rfl (aam (c:=pc-d) ae ae)) ?_
  refine aA ?_
  refine lR (az.own (t:=11) 39 3 rfl rfl) ?_
  refine dV (fun(i:Nat) L=>(((((((St.mk L.slot (hp [(5,⟨3,[ah t],true⟩),(39,⟨3,((jz k d pc t).take i).map ah,true⟩)])).put (some 0) (.list 3 (k.map ah))).put (some 1) (ai d)).put (some 5) (.aD 5 3 0 0)).put (some 9) (ai pc)).put (some 11) (.ref 39 3 0 i)).put (some 12) (ai (pc-d+i)))) (fun i=>i<=d+1) (fun i=>d+1-i) 0 (b8 _) ?_
  rintro i L1 hi
  refine bo ?_
  refine aH rfl ?_ ?_<;>intro xU qN
  ·have dR:i<d+1:=by omega
   have iS:=aKi (k:=k) (d:=d) (pc:=pc) (t:=t) dR
   have gZ:(((jz k d pc t).take i).map ah).take i=((jz k d pc t).take i).map ah:=dg zF
   refine bC ?_
   refine cp am5 (axy k pc t ae ae (fun x hx=>ba (kN x hx) aj) ae d ae (pc-d+i) ae) ?_
   refine av ?_
   refine bS rfl (.iJ (d:=39) (news:=[ah (fC k pc t d (pc-d+i))]) rfl rfl rfl rfl bz (.inl rfl) aj dI dI mq db rfl mY (.inl ⟨38,0,_,rfl,by decide,rfl,rfl,by simp,rfl,by simp [aN,ar.pure]⟩) bz bz aj) ?_
   refine aA ?_
   refine cM (az.kill _ 38) ?_
   refine av ?_
   refine ak rfl cV ?_
   refine aQ ?_
   exact l5
  ·obtain rfl:i=d+1:=by omega
   have hE:(jz k d pc t).take (d+1)=(jz k d pc t):=dg ae
   refine bD ?_
   refine ak rfl (.bin rfl rfl (aam (c:=pc-d) ae ae)) ?_
   refine aZ ?_
   simp only [hE]
   exact acp [39] rfl rfl (.pure rfl) rfl (fI ar rfl rfl ae) rfl (.pure rfl)
namespace ayV
theorem aO {p q:Prop} (k:q) (e:p=q:=by simp only [e1,e2,e3,e4,p1,p2,p3,q1,q2,q3,l1,t0,t1,r1,r2,r3,r4,Nat.zero_add,Nat.reduceMul,Nat.reduceAdd,b1,b2,b3,b4,b5,b6,i1,i2,i3,i4,i5,i6,Nat.reduceBEq,List.length_map,cN,nj,iB,q8,yw,List.set_cons_zero,List.set_cons_succ,Nat.reduceEqDiff,reduceIte,if_true,if_false,eN,eY,aV bl,aV bF,aV ar,cU,eu,LV.kill,bX];exact rfl):p:=e.mpr k
end ayV
open ayV in
theorem aBd (d:Nat) (k:List Rat) (pc:Nat) (t:Rat) (hI:ivK d k pc t) (po:List aG) (R:Nat) (hR:R<=40000) (hl:po.length+d+1=k.length) (fT:∀ q∈po,sf R q):ax an 65 [.agg [ai d,.list 3 (k.map ah),.list 12 (po.map aY)],ah t] (.agg [ah (gL k d pc t po 0 (d+1)),ah (gL k d pc t po 1 (d+1)),ah (gL k d pc t po 2 (d+1)),ah (gL k d pc t po 3 (d+1))]):=by
 have sv:=hI
 obtain⟨hd,iI,hk9,kN,ht,h1,h2,kE,sE,hle,hgt⟩:=hI
 have sX:∀ i,rl (k.getD i 0)<=100:=iX aj kN
 have nj:=am8 k d pc t
 have atJ:=fT
 have iB:∀ j,gL k d pc t po j 0=0:=fun j=>rfl
 have hnr:=ay4 sv
 have gh:LV.pure (.agg [ai d,.list 3 (k.map ah),.list 12 (po.map aY)])=true:=by simp [LV.pure,aN,a7 ar,a7 bF]
 refine aW Tryz.func65 (ht:=(fun g=>LV.di g _ pu)) ?_
 have yw:True:=trivial
 refine dM ?_
 refine cp ig (aKg d k pc t sv) ?_
 refine aaN ?_
 refine dV (fun(i:Nat) L=>(((((((St.mk L.slot (hp [(2,⟨3,[.agg [ai d,.list 3 (k.map ah),.list 12 (po.map aY)]],true⟩),(3,⟨3,[ah t],true⟩),(4,⟨12,[.agg [ah 0,ah 0,ah 0,ah 0]],true⟩),(8,⟨12,[.agg [ah (gL k d pc t po 0 i),ah (gL k d pc t po 1 i),ah (gL k d pc t po 2 i),ah (gL k d pc t po 3 i)]],true⟩)])).put (some 2) (.aD 2 3 0 0)).put (some 4) (.aD 4 12 0 0)).put (some 5) (ai (pc-d))).put (some 6) (.list 3 ((jz k d pc t).map ah))).put (some 8) (.aD 8 12 0 0)).put (some 9) (ai i))) (fun i=>i<=d+1) (fun i=>d+1-i) 0 (b8 _) ?_
 rintro i L1 hi
 refine bD ?_
 refine aH rfl ?_ ?_<;>intro aiX h25
 ·have dR:pc-d+i<po.length:=by omega
  have fT:=fT _ (sJ dR)
  have hng:=iX aj hnr i
  have gz:=asz (k:=k) (d:=d) (pc:=pc) (t:=t) (po:=po) hd hR atJ hnr i ae
  have dj:=aDd (k:=k) (d:=d) (pc:=pc) (t:=t) (po:=po) dR
  obtain⟨⟨ok1,ok2,ok3⟩,ok4,_⟩:=fT
  have yw:(((pc-d:Nat):Int)+(i:Int)).toNat=pc-d+i:=by omega
  have fT:=atJ _ (sJ dR)
  have bb0:=gz 0
  have bb1:=gz 1
  have bb2:=gz 2
  have bb3:=gz 3
  have m0:=df ((jz k d pc t).getD i 0) ((po.getD (pc-d+i) default).w*(po.getD (pc-d+i) default).p.x)
  have m1:=df ((jz k d pc t).getD i 0) ((po.getD (pc-d+i) default).w*(po.getD (pc-d+i) default).p.y)
  have m2:=df ((jz k d pc t).getD i 0) ((po.getD (pc-d+i) default).w*(po.getD (pc-d+i) default).p.z)
  have m3:=df ((jz k d pc t).getD i 0) (po.getD (pc-d+i) default).w
  have n0:=df (po.getD (pc-d+i) default).w (po.getD (pc-d+i) default).p.x
  have n1:=df (po.getD (pc-d+i) default).w (po.getD (pc-d+i) default).p.y
  have n2:=df (po.getD (pc-d+i) default).w (po.getD (pc-d+i) default).p.z
  have hA0:ax an 59 [ah (gL k d pc t po 0 i),ah ((jz k d pc t).getD i 0*((po.getD (pc-d+i) default).w*(po.getD (pc-d+i) default).p.x))] (ah (gL k d pc t po 0 (i+1))):=by
   rw [<-dj.1];exact qO _ _ ae
  have hA1:ax an 59 [ah (gL k d pc t po 1 i),ah ((jz k d pc t).getD i 0*((po.getD (pc-d+i) default).w*(po.getD (pc-d+i) default).p.y))] (ah (gL k d pc t po 1 (i+1))):=by
   rw [<-dj.2.1];exact qO _ _ ae
  have hA2:ax an 59 [ah (gL k d pc t po 2 i),ah ((jz k d pc t).getD i 0*((po.getD (pc-d+i) default).w*(po.getD (pc-d+i) default).p.z))] (ah (gL k d pc t po 2 (i+1))):=by
   rw [<-dj.2.2.1];exact qO _ _ ae
  have hA3:ax an 59 [ah (gL k d pc t po 3 i),ah ((jz k d pc t).getD i 0*(po.getD (pc-d+i) default).w)] (ah (gL k d pc t po 3 (i+1))):=by
   rw [<-dj.2.2.2];exact qO _ _ ae
  refine bM ?_
  refine ak rfl aac ?_
  refine aT ?_
  try simp only [t1,yw]
  refine cp aR (aAU (po.getD (pc-d+i) default) R ae fT) ?_
  refine bM ?_
  refine bN ?_
  refine aZ ?_
  refine cu (b:=_) rfl aj ?_
  refine aA ?_
  refine a9 14 aq ?_
  refine bC ?_
  try simp only [t1,cN]
  refine cp au (vf ((jz k d pc t).getD i 0) ((po.getD (pc-d+i) default).w*(po.getD (pc-d+i) default).p.x) ae) ?_
  refine cp au (hA0) ?_
  refine bC ?_
  refine bN ?_
  refine aZ ?_
  refine cu (b:=_) rfl aj ?_
  refine aA ?_
  refine a9 14 aq ?_
  refine bC ?_
  try simp only [t1,cN]
  refine cp au (vf ((jz k d pc t).getD i 0) ((po.getD (pc-d+i) default).w*(po.getD (pc-d+i) default).p.y) ae) ?_
  refine cp au (hA1) ?_
  refine bC ?_
  refine bN ?_
  refine aZ ?_
  refine cu (b:=_) rfl aj ?_
  refine aA ?_
  refine a9 14 aq ?_
  refine bC ?_
  try simp only [t1,cN]
  refine cp au (vf ((jz k d pc t).getD i 0) ((po.getD (pc-d+i) default).w*(po.getD (pc-d+i) default).p.z) ae) ?_
  refine cp au (hA2) ?_
  refine bC ?_
  refine bN ?_
  refine aZ ?_
  refine cu (b:=_) rfl aj ?_
  refine aA ?_
  refine a9 14 aq ?_
  refine bC ?_
  try simp only [t1,cN]
  refine cp au (vf ((jz k d pc t).getD i 0) (po.getD (pc-d+i) default).w ae) ?_
  refine cp au (hA3) ?_
  refine bC ?_
  refine bN ?_
  refine aZ ?_
  refine ff (b:=_) rfl aj ?_
  refine aC ?_
  refine cM (az.kill _ 10) ?_
  refine av ?_
  refine ak rfl cV ?_
  refine aQ ?_
  exact l5
 ·obtain rfl:i=d+1:=by omega
  refine bG ?_
  exact iG [] rfl rfl rfl cs (dZ cs rfl) aok (.pure pu)
open iy in
theorem aJo (d:Nat) (k:List Rat) (pc:Nat) (t:Rat) (hI:ivK d k pc t) (po:List aG) (R:Nat) (hR:R<=40000) (hl:po.length+d+1=k.length) (fT:∀ q∈po,sf R q) (hs:∀ i j,i<=pc->pc<j->j<=pc+d->k.getD i 0≠k.getD j 0):ax an 19 [.agg [ai d,.list 3 (k.map ah),.list 12 (po.map aY)],ah t] (.bf [a5 (vi k d pc po t),iL 0]):=by
 have hb:=asz (k:=k) (d:=d) (pc:=pc) (t:=t) (po:=po) hI.d6 hR fT (ay4 hI) (d+1) (bq _)
 have he:=aJq (t:=t) hI.p1 (show pc+1<=po.length by have:=hI.p2;omega) hs
 have hDr:ax an 64 [.agg [ah (gL k d pc t po 0 (d+1)),ah (gL k d pc t po 1 (d+1)),ah (gL k d pc t po 2 (d+1)),ah (gL k d pc t po 3 (d+1))]] (aY ⟨vi k d pc po t,cZ k d pc (aL po) (ay d t)⟩):=by
  have:=aF9 _ _ _ _ 6000000 aj (hb 0) (hb 1) (hb 2) (hb 3)
  rw [he.1 0 aj,he.1 1 aj,he.1 2 aj,he.2] at this ⊢
  exact this
 have ak5:LV.pure (.agg [ah (gL k d pc t po 0 (d+1)),ah (gL k d pc t po 1 (d+1)),ah (gL k d pc t po 2 (d+1)),ah (gL k d pc t po 3 (d+1))])=true:=by simp [LV.pure,aN,ar.pure]
 have gh:LV.pure (.agg [ai d,.list 3 (k.map ah),.list 12 (po.map aY)])=true:=by simp [LV.pure,aN,a7 ar,a7 bF]
 refine aW Tryz.func19 (ht:=(kL (bl.pure _) rfl)) ?_
 refine oF ?_
 refine cp ig (ao9 d k pc t hI) ?_
 refine dH ?_
 refine aH rfl ?_ ?_<;>intro uO uY
 ·first | exact uY.elim | cases uO
 ·refine aC ?_
  refine cp au (aBd d k pc t hI po R hR hl fT) ?_
  refine cp aR (hDr) ?_
  refine aC ?_
  exact vW [] rfl rfl rfl cs (dZ cs rfl) ju (.pure pu) rfl (.pure rfl)
theorem cH.mono {D N M:Nat} {x:Rat} (h:cH D N x) (hN:N<=M):cH D M x:=by
 obtain⟨z,e,g⟩:=h
 exact⟨z,e,ae⟩
theorem acP {z:Int} {N:Nat} (h:z.natAbs<=N):cH 1 N (z:Rat):=⟨z,by rw [show (((1:Nat):Int):Rat)=1 from rfl,pI],h⟩
theorem cH.amn {D N E M:Nat} {x y:Rat} (h:cH D N x) (g:cH E M y):cH (D*E) (N*M) (x*y):=by
 obtain⟨z,e,hz⟩:=h
 obtain⟨u,f,hu⟩:=g
 refine⟨z*u,?_,?_⟩
 ·rw [abm,sO,<-e,<-f];grind
 ·rw [acX];exact mM hz hu
theorem cH.ahI {D N M:Nat} {x y:Rat} (h:cH D N x) (g:cH D M y):cH D (N+M) (x+y):=by
 obtain⟨z,e,hz⟩:=h
 obtain⟨u,f,hu⟩:=g
 refine⟨z+u,?_,?_⟩
 ·rw [abD,<-e,<-f];grind
 ·have:=ak7 z u;omega
theorem cH.atc {D N M:Nat} {x y:Rat} (h:cH D N x) (g:cH D M y):cH D (N+M) (x-y):=by
 obtain⟨z,e,hz⟩:=h
 obtain⟨u,f,hu⟩:=g
 refine⟨z-u,?_,?_⟩
 ·rw [afw,<-e,<-f];grind
 ·have:=Int.natAbs_sub_le z u;omega
theorem aJV {D N:Nat} {w:Rat} (h:cH D N w) (h0:0<w) (hD:0<D):∃ M:Nat,0<M/\M<=N/\w*((D:Int):Rat)=((M:Int):Rat):=by
 obtain⟨z,e,g⟩:=h
 have hz:0<z:=sK.1 (by rw [<-e];exact aak h0 (ae0 hD))
 exact⟨z.toNat,ae,ae,by rw [e,yK ae]⟩
theorem anp {D N M:Nat} {n w:Rat} (h:cH D N n) (hM:w*((D:Int):Rat)=((M:Int):Rat)) (hw:w≠0):cH M N (1/w*n):=by
 obtain⟨z,e,g⟩:=h
 refine⟨z,?_,g⟩
 rw [<-hM,<-e]
 have:1/w*w=1:=kf hw
 have e2:1/w*n*(w*((D:Int):Rat))=(1/w*w)*(n*((D:Int):Rat)):=by grind
 rw [e2,this,ph]
theorem anH {M Z:Nat} {x p q:Rat} (hM:0<M) (hx:cH M Z x) (hp:cH M Z p) (hq:cH M Z q) (h1:p<=x) (h2:x<=q) (hpq:p<q):∃ E,0<E/\E<=2*Z/\uQ E ((x-p)/(q-p)):=by
 obtain⟨X,ex,_⟩:=hx
 obtain⟨P,ep,gp⟩:=hp
 obtain⟨Q,eq_,gq⟩:=hq
 have bH:0<Q-P:=by
  have e:((Q-P:Int):Rat)=(q-p)*((M:Int):Rat):=by rw [afw,<-ep,<-eq_];grind
  exact sK.1 (by rw [e];exact aak cj (ae0 hM))
 exact⟨(Q-P).toNat,ae,ae,aza hM ex ep eq_ h1 h2 hpq⟩
theorem aHC {po:List aG} {d D N E:Nat} (h:jW po D N) (hl:po.length=d+1) {x:Rat} (hx:uQ E x) (hE:0<E) (h0:0<=x) (h1:x<=1):∃ M,0<M/\M<=N*E ^ d/\∀ k,k<3->cH M (N*E ^ d) ((jq po x).at k):=by
 have l1:(aL po).length=d+1:=by rw [mC,hl]
 have l2:∀ k,(a8 po k).length=d+1:=fun k=>by rw [kY,hl]
 have ew:aJ (aL po) x=fE (1-x) x d (fun i=>(aL po).getD i 0):=by rw [mZ ae,l1,mi]
 have en:∀ k,aJ (a8 po k) x=fE (1-x) x d (fun i=>(a8 po k).getD i 0):=fun k=>by rw [mZ (by rw [l2];omega),l2,mi]
 have cw:cH (D*E ^ d) (N*E ^ d) (aJ (aL po) x):=by rw [ew];exact afc hx d _ fun i hi=>h.w _ (dK ae)
 have cn:∀ k,cH (D*E ^ d) (N*E ^ d) (aJ (a8 po k) x):=fun k=>by rw [en];exact afc hx d _ fun i hi=>h.n k _ (dK (by rw [l2];omega))
 have hp:0<aJ (aL po) x:=by
  rw [ew]
  refine adi cj h0 cj d _ fun i hi=>?_
  rw [aav ae]
  exact h.p _ (sJ ae)
 obtain⟨M,m0,m1,m2⟩:=aJV cw hp (mG h.D0 (my hE))
 refine⟨M,m0,m1,fun k hk=>?_⟩
 match k,hk with
 | 0,_=>exact anp (cn 0) m2 cj
 | 1,_=>exact anp (cn 1) m2 cj
 | 2,_=>exact anp (cn 2) m2 cj
structure nY (d:Nat) (k:List Rat) (po:List aG) (a b:Rat):Prop where
 d1:1<=d
 d3:d<=3
 ab:a<b
 ca:cH 2 20 a
 cb:cH 2 20 b
 kn:k=bu d a b/\po.length=d+1\/∃ t,a<t/\t<b/\cH 2 20 t/\k=bR d a t b/\po.length=d+2
theorem uo {x:Rat} (h:cH 2 20 x):rl x<=1:=h.rl aj aj aj aj
def ix (d:Nat) (k:List Rat) (po:List aG):List eX :=
 if po.length=d+1 then [⟨d,k.getD 0 0,k.getD (d+1) 0,po⟩]
 else [⟨d,k.getD 0 0,k.getD (d+1) 0,(kj d (k.getD 0 0) (k.getD (d+1) 0) (k.getD (d+2) 0) (po.map cO)).map dW⟩,⟨d,k.getD (d+1) 0,k.getD (d+2) 0,(km d (k.getD 0 0) (k.getD (d+1) 0) (k.getD (d+2) 0) (po.map cO)).map dW⟩]
theorem x9 {d:Nat} {a b:Rat} {po:List aG} (h:po.length=d+1):ix d (bu d a b) po=[⟨d,a,b,po⟩]:=by
 unfold ix
 rw [if_pos h,iH _ _ _ _ ae,iH _ _ _ _ ae,if_pos ae,if_neg ae]
theorem aaZ {d:Nat} {a t b:Rat} {po:List aG} (h:po.length=d+2):ix d (bR d a t b) po=[⟨d,a,t,(kj d a t b (po.map cO)).map dW⟩,⟨d,t,b,(km d a t b (po.map cO)).map dW⟩]:=by
 unfold ix
 have e0:(bR d a t b).getD 0 0=a:=by rw [eT _ _ _ _ _ ae,if_pos ae]
 have e1:(bR d a t b).getD (d+1) 0=t:=by rw [eT _ _ _ _ _ ae,if_neg ae,if_pos ae]
 have e2:(bR d a t b).getD (d+2) 0=b:=by rw [eT _ _ _ _ _ ae,if_neg ae,if_neg ae]
 rw [if_neg ae,e0,e1,e2]
structure pcC (d D N:Nat) (q:eX):Prop where
 dd:q.d=d
 c:jW q.po D N
 l:q.po.length=d+1
 ab:q.a<q.b
 ca:cH 2 20 q.a
 cb:cH 2 20 q.b
theorem alU {E F d:Nat} (h:E<=F) (hF:0<F) (hd:d<=3):E ^ d<=F ^ 3:=ba (axg h d) (mh hF hd)
theorem nY.pcs {d:Nat} {k:List Rat} {po:List aG} {a b:Rat} {D N:Nat} (h:nY d k po a b) (c:jW po D N):∃ E,0<E/\E<=40/\∀ q∈ix d k po,pcC d (D*E ^ d) (N*E ^ d) q:=by
 rcases h.kn with⟨rfl,hl⟩ | ⟨t,h1,h2,ht,rfl,hl⟩
 ·refine⟨1,by decide,by decide,fun q hq=>?_⟩
  rw [x9 hl] at hq
  rw [gS.1 hq,Nat.one_pow,jR,jR]
  exact⟨rfl,c,hl,h.ab,h.ca,h.cb⟩
 ·obtain⟨E,e0,e1,e2⟩:=anH aj ht h.ca h.cb (ib h1) (ib h2) h.ab
  refine⟨E,e0,e1,fun q hq=>?_⟩
  rw [aaZ hl] at hq
  simp only [fx,jy,or_false] at hq
  rcases hq with rfl | rfl
  ·exact⟨rfl,ar5 h1 h2 hl c e0 e2,by simp [kj],h1,h.ca,ht⟩
  ·exact⟨rfl,asH h1 h2 hl c e0 e2,by simp [km],h2,ht,h.cb⟩
def fg (T:V3) (q:aG):aG:=⟨lM q.p T,q.w⟩
theorem auJ {po:List aG} {D N M Z:Nat} {T:V3} (h:jW po D N) (hM:0<M) (hT:∀ k,k<3->cH M Z (T.at k)):jW (po.map (fg T)) (D*M) (N*M+N*Z):=by
 have at_:∀ (p q:V3) (k:Nat),(lM p q).at k=p.at k+q.at k:=fun p q k=>by
  match k with
  | 0=>rfl
  | 1=>rfl
  | k+2=>rfl
 have hT':∀ k,cH M Z (T.at k):=fun k=>by
  match k with
  | 0=>exact hT 0 aj
  | 1=>exact hT 1 aj
  | k+2=>exact hT 2 aj
 refine⟨mG h.D0 hM,fun k x hx=>?_,fun x hx=>?_,fun q hq=>?_⟩
 ·obtain⟨q,hq,rfl⟩:=cQ.1 hx
  obtain⟨y,hy,rfl⟩:=cQ.1 hq
  show cH _ _ (y.w*(lM y.p T).at k)
  rw [at_,Rat.mul_add]
  exact(h.n k _ (cQ.2 ⟨y,hy,rfl⟩)).scale.ahI ((h.w _ (cQ.2 ⟨y,hy,rfl⟩)).amn (hT' k))
 ·obtain⟨q,hq,rfl⟩:=cQ.1 hx
  obtain⟨y,hy,rfl⟩:=cQ.1 hq
  exact(h.w _ (cQ.2 ⟨y,hy,rfl⟩)).scale.mono (Nat.le_add_right _ _)
 ·obtain⟨y,hy,rfl⟩:=cQ.1 hq
  exact h.p y hy
end Go.Proofs.YtckppbhafancnaaGreat
end
