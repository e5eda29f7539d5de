/- Texts A6, A7, Y14, Y16, Y7, Y8, Q20, Z4, Z5, Z7, Z8, U1, U2, U3, U4, U5, U6, U16, Q2, A5, U9, U10, Q3, Q4 of this proof, joined. -/
import Derived.Test.YtlipjipfpkbppaaGreatQV6
set_option linter.unusedVariables false
set_option linter.unusedSimpArgs false
open And renaming intro->aF
open Bool renaming and_self->aeg,not_eq_true->so
open Go.Proofs.Tryz renaming func87->acO,prog->aa,underlying111->tH,underlying147->aaC,underlying153->qE,underlying222->yb,underlying26->aV,underlying27->jG,underlying36->oB,underlying44->eT,underlying59->eI
open Int renaming natAbs_mul->ur,natAbs_natCast->aer,toNat_natCast->pQ,toNat_of_nonneg->qe
open List renaming append_nil->aS,count_replicate->acY,drop_append_of_le_length->ab1,drop_drop->je,drop_left'->tB,drop_of_length_le->ep,drop_zero->dY,ext_getElem->lX,foldl->lM,getD_eq_getElem?_getD->ao,getElem?_eq_getElem->aB,getElem?_map->bU,getElem?_range->vA,getElem_map->adA,getElem_of_mem->mP,length_append->cZ,length_cons->aQ,length_drop->fJ,length_map->aA,length_nil->bc,length_replicate->mj,length_set->uW,length_take->bZ,map->jt,map_append->su,map_cons->gA,map_drop->sD,map_id'->xr,map_map->vx,map_nil->bh,map_take->lY,mem_append->eF,mem_append_left->vf,mem_append_right->wj,mem_cons->bp,mem_map->bS,mem_of_mem_drop->oH,mem_of_mem_take->oM,mem_replicate->jE,mem_singleton->bD,nil_append->aR,not_mem_nil->cN,range->b9,replicate->ai,replicate_succ'->qO,set->lZ,set_cons_succ->aK,set_cons_zero->aN,take_add_one->nV,take_append_of_le_length->aao,take_left'->x8,take_length->eZ,take_nil->aZ,take_of_length_le->aH
open Nat renaming add_assoc->fT,beq->iS,beq_eq->te,le_mul_of_pos_right->mq,le_of_lt_succ->qL,le_refl->an,le_trans->aw,lt_or_ge->cu,lt_succ_iff_lt_or_eq->acB,min_eq_left->eP,mul_assoc->bW,mul_comm->bz,mul_le_mul_left->fx,mul_pos->eN,not_lt_zero->acb,pow_pos->dU,reduceAdd->au,reduceBEq->aq,reduceEqDiff->aO,reduceMul->ar,sub_self->jy,zero_le->az,zero_lt_one->adf
open Option renaming getD_some->iY
open Option.some renaming inj->adU,injEq->bF
open Rat renaming add_zero->fw,div_def->cj,div_mul_cancel->gz,intCast_mul->lI,intCast_nonneg->rq,le_of_lt->dp,le_refl->dD,mul_comm->iF,mul_div_cancel->mc,mul_nonneg->cO
section
set_option linter.unusedVariables false
set_option linter.unusedSimpArgs false
set_option maxHeartbeats 8000000
set_option maxRecDepth 100000
attribute [local irreducible] Go.Lg.opsL Go.Lg.wpL Go.Lg.thenL Go.Lg.blockL
namespace Go.Proofs.YtlipjipfpkbppaaGreat
open Go.Lg
theorem spuA (a b:Rat):spL (a,b)=.agg [ratL a,ratL b]:=by unfold spL;rfl
def mtL (a b c:Bx3):LV:=.agg [bxL ⟨a.x,b.x,c.x⟩,bxL ⟨a.y,b.y,c.y⟩,bxL ⟨a.z,b.z,c.z⟩]
theorem mtL_pure (a b c:Bx3):(mtL a b c).pure=true:=by simp [mtL,LV.pure,pures,spE.pure]
theorem ngS_bd {R:Nat} {s:Rat × Rat} (h:bdS R s):bdS R (ngS s):=⟨by show rl (-s.2)<=R;rw [rl_neg];exact h.2,by show rl (-s.1)<=R;rw [rl_neg];exact h.1⟩
theorem ngB_bd {R:Nat} {b:Bx3} (h:bdB R b):bdB R (ngB b):=⟨ngS_bd h.1,ngS_bd h.2.1,ngS_bd h.2.2⟩
theorem adS_bd {R S:Nat} {s t:Rat × Rat} (hs:bdS R s) (ht:bdS S t):bdS (R+S+1) (adS s t):=⟨aw (rl_add _ _) (by have:=hs.1;have:=ht.1;omega),aw (rl_add _ _) (by have:=hs.2;have:=ht.2;omega)⟩
theorem d2S_bd {R:Nat} {p q r s:Rat × Rat} (hp:bdS R p) (hq:bdS R q) (hr:bdS R r) (hs:bdS R s):bdS (4*R+1) (d2S p q r s):=(sbS_bd (muS_bd hp hs) (muS_bd hq hr)).le J
theorem d3S_bd {R:Nat} {a b c:Bx3} (ha:bdB R a) (hb:bdB R b) (hc:bdB R c):bdS (20*R+10) (d3S a b c):=by
 obtain⟨a1,a2,a3⟩:=ha;obtain⟨y1,y2,y3⟩:=hb;obtain⟨z1,z2,z3⟩:=hc;exact(adS_bd (sbS_bd (muS_bd a1 (d2S_bd y2 z2 y3 z3)) (muS_bd y1 (d2S_bd a2 z2 a3 z3))) (muS_bd z1 (d2S_bd a2 y2 a3 y3))).le J
theorem bd0S {P:Program} {H:Heap} {ρ:Operand->LV} {T:TypeId} (hl:StructLay P T [(3,true),(3,true)]) (hz:ZeroOK P T (spL (0,0))):OpP P H ρ (.build T #[]) (spL (0,0)):=by
 have e:[ratL 0,ratL 0].map lay=[(3,true),(3,true)]:=by simp [lay,ratE.csize,ratE.isAgg]
 rw [spuA] at hz ⊢;exact .build (zs:=[ratL 0,ratL 0]) (e ▸ hl) hz (by intro p hp;cases hp)
theorem putM0 {x y z v:LV} (hx:x.csize=18) (hy:y.csize=18) (hz:z.csize=18) (hv:v.csize=18) (xa:x.isAgg=true) (va:v.isAgg=true):(LV.agg [x,y,z]).put 0 v=some (.agg [v,y,z]):=by
 have:=put_whole x v (hx.trans hv.symm) (xa.trans va.symm);simp [LV.put,putFs,csizes,hx,hy,hz,hv,this]
theorem putM1 {x y z v:LV} (hx:x.csize=18) (hy:y.csize=18) (hz:z.csize=18) (hv:v.csize=18) (ya:y.isAgg=true) (va:v.isAgg=true):(LV.agg [x,y,z]).put 18 v=some (.agg [x,v,z]):=by
 have:=put_whole y v (hy.trans hv.symm) (ya.trans va.symm);simp [LV.put,putFs,csizes,hx,hy,hz,hv,this]
theorem putM2 {x y z v:LV} (hx:x.csize=18) (hy:y.csize=18) (hz:z.csize=18) (hv:v.csize=18) (za:z.isAgg=true) (va:v.isAgg=true):(LV.agg [x,y,z]).put 36 v=some (.agg [x,y,v]):=by
 have:=put_whole z v (hz.trans hv.symm) (za.trans va.symm);simp [LV.put,putFs,csizes,hx,hy,hz,hv,this]
theorem bdV3 {P:Program} {H:Heap} {ρ:Operand->LV} {T E:TypeId} {n:Nat} {ag:Bool} {o0 o1 o2:Operand} {z v0 v1 v2:LV} (hT:P.underlying T=some (.array 3 E)) (t:TyIs P E n ag) (hz:ZeroOK P T (.agg [z,z,z])) (zl:lay z=(n,ag)) (h0:ρ o0=v0) (h1:ρ o1=v1) (h2:ρ o2=v2)
  (l0:lay v0=(n,ag)) (l1:lay v1=(n,ag)) (l2:lay v2=(n,ag)) (p0:v0.pure=true) (l5:v1.pure=true) (jR:v2.pure=true):OpP P H ρ (.build T #[(0,o0),(1,o1),(2,o2)]) (.agg [v0,v1,v2]):=by
 have:=OpP.buildA (P:=P) (H:=H) (ρ:=ρ) (zs:=[z,z,z]) (ps:=#[(0,o0),(1,o1),(2,o2)]) hT t (by simp [zl]) hz (by
  intro p hp;simp only [bp,cN,or_false] at hp;rcases hp with rfl | rfl | rfl
  ·exact⟨_,rfl,by rw [h0,l0,zl],by rw [h0];exact LV.pure_ne_any p0,by rw [h0];exact LV.pure_ne_tup p0⟩
  ·exact⟨_,rfl,by rw [h1,l1,zl],by rw [h1];exact LV.pure_ne_any l5,by rw [h1];exact LV.pure_ne_tup l5⟩
  exact⟨_,rfl,by rw [h2,l2,zl],by rw [h2];exact LV.pure_ne_any jR,by rw [h2];exact LV.pure_ne_tup jR⟩)
 simpa only [buildL,jt,lM,lZ,h0,h1,h2] using this
theorem bdV2 {P:Program} {H:Heap} {ρ:Operand->LV} {T E:TypeId} {n:Nat} {ag:Bool} {o0 o1:Operand} {z v0 v1:LV} (hT:P.underlying T=some (.array 2 E)) (t:TyIs P E n ag) (hz:ZeroOK P T (.agg [z,z])) (zl:lay z=(n,ag)) (h0:ρ o0=v0) (h1:ρ o1=v1)
  (l0:lay v0=(n,ag)) (l1:lay v1=(n,ag)) (p0:v0.pure=true) (l5:v1.pure=true):OpP P H ρ (.build T #[(0,o0),(1,o1)]) (.agg [v0,v1]):=by
 have:=OpP.buildA (P:=P) (H:=H) (ρ:=ρ) (zs:=[z,z]) (ps:=#[(0,o0),(1,o1)]) hT t (by simp [zl]) hz (by
  intro p hp;simp only [bp,cN,or_false] at hp;rcases hp with rfl | rfl
  ·exact⟨_,rfl,by rw [h0,l0,zl],by rw [h0];exact LV.pure_ne_any p0,by rw [h0];exact LV.pure_ne_tup p0⟩
  exact⟨_,rfl,by rw [h1,l1,zl],by rw [h1];exact LV.pure_ne_any l5,by rw [h1];exact LV.pure_ne_tup l5⟩)
 simpa only [buildL,jt,lM,lZ,h0,h1] using this
theorem lz {p:Prop} (h:p:=by first | rfl | simp [lay,LV.csize,csizes,isAgg_agg,ratE.csize,spE.csize,ratE.isAgg,spE.isAgg]):p:=h
open H0 in
theorem c_RNeg (q:Rat) (h:rl q<=274877906944):CallP aa 206 [ratL q] (ratL (-q)):=by
 refine fnP Tryz.func206 ?_;refine zg9 ?_;refine cp am1 (c_copied q J) ?_;refine zg9 ?_;refine op_if 8 rfl ?_ ?_<;>intro gM h8
 ·refine zg6 ?_;refine st_store rfl (.stNegR rfl rfl rfl T4 (by first | exact neg1 gM | exact neg2 gM)) ?_;refine zg9 ?_;exact cy
 refine zg6 ?_;refine st_store rfl (.stNegR rfl rfl rfl T4 (by first | exact neg1 gM | exact neg2 gM)) ?_;refine zg9 ?_;exact cy
open H_c_Distinct in
theorem c_SNeg (s:Rat × Rat) (R:Nat) (hR:R<=1000000000) (hs:bdS R s):CallP aa 170 [spL s] (spL (ngS s)):=by
 obtain⟨a1,a2⟩:=hs;refine fnP Tryz.func170 ?_;refine zg7 ?_;refine wl_regD 7 ah ?_;refine zg2 ?_;refine cp am1 (c_RNeg s.2 J) ?_;refine zg2 ?_;refine cp am1 (c_RNeg s.1 J) ?_;refine zg5 ?_;exact iW
open H_c_Distinct in
theorem c_SAdd (s t:Rat × Rat) (R:Nat) (hR:R<=100000000000) (hs:bdS R s) (ht:bdS R t):CallP aa 173 [spL s,spL t] (spL (adS s t)):=by
 obtain⟨a1,a2⟩:=hs;obtain⟨y1,y2⟩:=ht;refine fnP Tryz.func173 ?_;refine zg8 ?_;refine wl_regD 11 ah ?_;refine zg4 ?_;refine cp am2 (c_RAdd s.1 t.1 J) ?_;refine zg4 ?_;refine cp am2 (c_RAdd s.2 t.2 J) ?_;refine zg5 ?_;exact iW
open H_c_Distinct in
theorem c_SMeet (s t:Rat × Rat) (R:Nat) (hR:R<=100000000000) (hs:bdS R s) (ht:bdS R t) (hm:meS s t=true):CallP aa 87 [spL s,spL t] (.tup [spL (mxR s.1 t.1,mnR s.2 t.2),bL true]):=by
 obtain⟨a1,a2⟩:=hs;obtain⟨y1,y2⟩:=ht;have hle:=of_decide_eq_true hm;have jA:rl (mxR s.1 t.1)<=R:=by unfold mxR;split<;>assumption
 have kh:rl (mnR s.2 t.2)<=R:=by unfold mnR;split<;>assumption
 have wO:¬cmpR (mxR s.1 t.1) (mnR s.2 t.2) > 0:=fun e=>by have:=cmpR_pos.1 e;grind
 refine fnP acO (ht:=(tame2 (spE.pure _) rfl)) ?_;refine zg9 ?_;refine wl_regD 12 ah ?_;refine ads ?_;refine zg3 ?_;refine wl_condY (b:=_) rfl (decide_eq_false wO) ?_;refine zg10 ?_;exact retCT [] rfl rfl rfl (spE.csize _) (spL_all _) T48 (.pure (spE.pure _)) rfl (.pure rfl)
open H_c_Distinct in
theorem c_SMeetN (s t:Rat × Rat) (R:Nat) (hR:R<=100000000000) (hs:bdS R s) (ht:bdS R t) (hm:meS s t=false):CallP aa 87 [spL s,spL t] (.tup [spL (0,0),bL false]):=by
 obtain⟨a1,a2⟩:=hs;obtain⟨y1,y2⟩:=ht;have hle:=of_decide_eq_false hm;have jA:rl (mxR s.1 t.1)<=R:=by unfold mxR;split<;>assumption
 have kh:rl (mnR s.2 t.2)<=R:=by unfold mnR;split<;>assumption
 have wO:cmpR (mxR s.1 t.1) (mnR s.2 t.2) > 0:=cmpR_pos.2 ay;refine fnP acO (ht:=(tame2 (spE.pure _) rfl)) ?_;refine zg9 ?_;refine wl_regD 12 ah ?_;refine ads ?_;refine zg3 ?_;refine wl_condX (b:=_) rfl (decide_eq_true wO) ?_;refine zg2 ?_;refine st_pure rfl (bd0S SL48 Z48s) ?_;refine zg6 ?_;exact retCT [] rfl rfl rfl (spE.csize _) (spL_all _) T48 (.pure (spE.pure _)) rfl (.pure rfl)
namespace H_c_SDet2
theorem zSm {p q:Prop} (k:q) (e:p=q:=by simp only [sNF,ar,au,aq,List.getD_cons_zero,List.getD_cons_succ,aN,aK,aO,reduceIte,if_true,if_false,aX,LV.kill,kills];exact rfl):p:=e.mpr k
end H_c_SDet2
open H_c_SDet2 in
theorem c_SDet2 (p q r s:Rat × Rat) (R:Nat) (hR:R<=100000000) (vw:bdS R p) (hq9:bdS R q) (hr9:bdS R r) (wT:bdS R s):CallP aa 172 [.agg [.agg [spL p,spL q],.agg [spL r,spL s]]] (spL (d2S p q r s)):=by
 have m1:=muS_bd vw wT;have m2:=muS_bd hq9 hr9;refine fnP Tryz.func172 (ht:=(fun r=>LV.ren_pure r _ (spE.pure _))) ?_;refine zg7 ?_;refine wl_regD 15 ah ?_;refine zg6 ?_;refine cp am2 (c_SMul p s R J vw wT) ?_;refine zg6 ?_;refine cp am2 (c_SMul q r R J hq9 hr9) ?_;refine cp am2 (c_SSub (muS p s) (muS q r) (R+R) J m1 m2) ?_;refine zg4 ?_;exact iW
open H_c_SDet2 in
theorem c_MeetsT (a b:Bx3) (R:Nat) (hR:R<=100000000000) (ha:bdB R a) (hb:bdB R b) (dH:meS a.x b.x=true) (ja:meS a.y b.y=true) (cL:meS a.z b.z=true):CallP aa 37 [bxL a,bxL b] (bL true):=by
 obtain⟨a1,a2,a3⟩:=ha;obtain⟨y1,y2,y3⟩:=hb;refine aaa ?_;refine cp am2 (c_SMeet a.y b.y R hR a2 y2 ja) ?_;refine yf ?_;refine wm ?_;refine cp am2 (c_SMeet a.z b.z R hR a3 y3 cL) ?_;refine yf ?_;refine km ?_;refine zg11 ?_;exact dS
open H_c_SDet2 in
theorem c_MeetsF2 (a b:Bx3) (R:Nat) (hR:R<=100000000000) (ha:bdB R a) (hb:bdB R b) (dH:meS a.x b.x=true) (ja:meS a.y b.y=true) (cL:meS a.z b.z=false):CallP aa 37 [bxL a,bxL b] (bL false):=by
 obtain⟨a1,a2,a3⟩:=ha;obtain⟨y1,y2,y3⟩:=hb;refine aaa ?_;refine cp am2 (c_SMeet a.y b.y R hR a2 y2 ja) ?_;refine yf ?_;refine wm ?_;refine cp am2 (c_SMeetN a.z b.z R hR a3 y3 cL) ?_;refine zg14 ?_;refine wl_condX (b:=_) rfl (rfl) ?_;refine zg11 ?_;exact dS
open H_c_SDet2 in
theorem c_MeetsF1 (a b:Bx3) (R:Nat) (hR:R<=100000000000) (ha:bdB R a) (hb:bdB R b) (dH:meS a.x b.x=true) (ja:meS a.y b.y=false):CallP aa 37 [bxL a,bxL b] (bL false):=by
 obtain⟨a1,a2,a3⟩:=ha;obtain⟨y1,y2,y3⟩:=hb;refine aaa ?_;refine cp am2 (c_SMeetN a.y b.y R hR a2 y2 ja) ?_;refine zg14 ?_;refine wl_condX (b:=_) rfl (rfl) ?_;refine zg11 ?_;exact dS
open H_c_SDet2 in
theorem c_MeetsF0 (a b:Bx3) (R:Nat) (hR:R<=100000000000) (ha:bdB R a) (hb:bdB R b) (dH:meS a.x b.x=false):CallP aa 37 [bxL a,bxL b] (bL false):=by
 obtain⟨a1,a2,a3⟩:=ha;obtain⟨y1,y2,y3⟩:=hb;refine fnP Tryz.func37 ?_;refine zg14 ?_;refine wm ?_;refine cp am2 (c_SMeetN a.x b.x R hR a1 y1 dH) ?_;refine zg14 ?_;refine wl_condX (b:=_) rfl (rfl) ?_;refine zg11 ?_;exact dS
theorem c_MeetsB (a b:Bx3) (R:Nat) (hR:R<=100000000000) (ha:bdB R a) (hb:bdB R b):CallP aa 37 [bxL a,bxL b] (bL (meB a b)):=by
 unfold meB
 cases h0:meS a.x b.x with
 | false=>exact c_MeetsF0 a b R hR ha hb h0
 | true =>
  cases h1:meS a.y b.y with
  | false=>exact c_MeetsF1 a b R hR ha hb h0 h1
  | true =>
   cases h2:meS a.z b.z with
   | false=>exact c_MeetsF2 a b R hR ha hb h0 h1 h2
   | true=>exact c_MeetsT a b R hR ha hb h0 h1 h2
structure M3 where
 a:V3
 b:V3
 c:V3
 t:V3
 deriving Inhabited
def mpL (m:M3):LV:=.agg [.agg [ptL m.a,ptL m.b,ptL m.c],ptL m.t]
theorem mpE:EncOK mpL 36 true:=⟨fun m=>by simp [mpL,LV.csize,csizes,ptE.csize],fun _=>rfl,fun m=>by simp [mpL,LV.pure,pures,ptE.pure]⟩
def m3t (m:M3) (p:V3):V3:=⟨v3d m.a p,v3d m.b p,v3d m.c p⟩
def m3p (m:M3) (p:V3):V3:=v3a (m3t m p) m.t
def mvP (m:M3) (q:PoR):PoR:=⟨m3p m q.p,q.w⟩
def bdM (R:Nat) (m:M3):Prop:=bd3 R m.a/\bd3 R m.b/\bd3 R m.c/\bd3 R m.t
theorem m3t_bd {R S:Nat} {m:M3} {p:V3} (hm:bdM R m) (hp:bd3 S p):bd3 (3*(R+S)+4) (m3t m p):=⟨v3d_rl hm.1 hp,v3d_rl hm.2.1 hp,v3d_rl hm.2.2.1 hp⟩
instance:EC aa 79 mpL 36 true ⟨⟨0,0,0⟩,⟨0,0,0⟩,⟨0,0,0⟩,⟨0,0,0⟩⟩:=⟨mpE,Z79,T79⟩
theorem pt_at (p:V3):(ptL p).at 0 9 true=some (ptL p):=at_all (ptE.csize p) rfl
theorem mp_at0 (m:M3):(mpL m).at 0 9 true=some (ptL m.a):=by
 simp [mpL,LV.at,atFs,LV.csize,csizes,ptE.csize,pt_at]
theorem mp_at9 (m:M3):(mpL m).at 9 9 true=some (ptL m.b):=by
 simp [mpL,LV.at,atFs,LV.csize,csizes,ptE.csize,pt_at]
theorem mp_at18 (m:M3):(mpL m).at 18 9 true=some (ptL m.c):=by
 simp [mpL,LV.at,atFs,LV.csize,csizes,ptE.csize,pt_at]
theorem mp_at27 (m:M3):(mpL m).at 27 9 true=some (ptL m.t):=by
 simp [mpL,LV.at,atFs,LV.csize,csizes,ptE.csize,pt_at]
theorem mpL_kill (m:M3) (b:Nat):(mpL m).kill b=mpL m:=LV.kill_pure b _ (mpE.pure m)
section
variable {P:Program} {H:Heap} {ρ:Operand->LV} {T E:TypeId}
theorem bdM3 {o0 o1 o2:Operand} {a b c:V3} [u:UN P T (.array 3 E)] [t:TI P E 9 true] [z:ZI P T (.agg [ptL ⟨0,0,0⟩,ptL ⟨0,0,0⟩,ptL ⟨0,0,0⟩])] (h0:ρ o0=ptL a) (h1:ρ o1=ptL b) (h2:ρ o2=ptL c) :
  OpP P H ρ (.build T #[(0,o0),(1,o1),(2,o2)]) (.agg [ptL a,ptL b,ptL c]):=by
 have:=OpP.bda (H:=H) (ρ:=ρ) (ps:=#[(0,o0),(1,o1),(2,o2)]) (u:=u) (t:=t) (z:=z) (by simp [lay,ptE.csize,ptE.isAgg]) (by
  intro p hp;simp only [bp,cN,or_false] at hp;rcases hp with rfl | rfl | rfl
  ·exact⟨_,rfl,by rw [h0];simp [lay,ptE.csize,ptE.isAgg],by rw [h0];exact LV.pure_ne_any (ptE.pure _),by rw [h0];exact LV.pure_ne_tup (ptE.pure _)⟩
  ·exact⟨_,rfl,by rw [h1];simp [lay,ptE.csize,ptE.isAgg],by rw [h1];exact LV.pure_ne_any (ptE.pure _),by rw [h1];exact LV.pure_ne_tup (ptE.pure _)⟩
  exact⟨_,rfl,by rw [h2];simp [lay,ptE.csize,ptE.isAgg],by rw [h2];exact LV.pure_ne_any (ptE.pure _),by rw [h2];exact LV.pure_ne_tup (ptE.pure _)⟩)
 simpa only [buildL,jt,lM,lZ,h0,h1,h2] using this
end
instance:ZI aa 77 (.agg [ptL ⟨0,0,0⟩,ptL ⟨0,0,0⟩,ptL ⟨0,0,0⟩]):=⟨Z77⟩
instance:ZI aa 79 (.agg [.agg [ptL ⟨0,0,0⟩,ptL ⟨0,0,0⟩,ptL ⟨0,0,0⟩],ptL ⟨0,0,0⟩]):=⟨Z79⟩
instance:AE aa 79 mpL 36 true ⟨⟨0,0,0⟩,⟨0,0,0⟩,⟨0,0,0⟩,⟨0,0,0⟩⟩:=⟨mpE,Z79⟩
theorem mp_put27 (m:M3) (q:V3):(mpL m).put 27 (ptL q)=some (mpL ⟨m.a,m.b,m.c,q⟩):=by
 have hq:(ptL m.t).put 0 (ptL q)=some (ptL q):=ptp;simp [mpL,LV.put,putFs,LV.csize,csizes,ptE.csize,hq]
theorem bdMp1 {P:Program} {H:Heap} {ρ:Operand->LV} {T:TypeId} {o0:Operand} {a b c:V3} [z:ZI P T (.agg [.agg [ptL ⟨0,0,0⟩,ptL ⟨0,0,0⟩,ptL ⟨0,0,0⟩],ptL ⟨0,0,0⟩])] [s:SI P T [(27,true),(9,true)]] (h0:ρ o0=.agg [ptL a,ptL b,ptL c]) :
  OpP P H ρ (.build T #[(0,o0)]) (mpL ⟨a,b,c,⟨0,0,0⟩⟩):=by
 have hp:LV.pure (.agg [ptL a,ptL b,ptL c])=true:=by simp [LV.pure,pures,ptE.pure]
 have:=OpP.bd (H:=H) (ρ:=ρ) (ps:=#[(0,o0)]) (z:=z) (s:=s) (by simp [lay,LV.csize,csizes,ptE.csize,ptE.isAgg,isAgg_agg]) (by
  intro q hq;simp only [bp,cN,or_false] at hq;rcases hq with rfl;exact⟨_,rfl,by rw [h0];simp [lay,ptE.csize,LV.csize,csizes,isAgg_agg],by rw [h0];exact LV.pure_ne_any hp,by rw [h0];exact LV.pure_ne_tup hp⟩)
 simp only [buildL,jt,lM,lZ,h0] at this;exact this
open H_c_Distinct in
theorem c_FTurn (m:M3) (p:V3) (R:Nat) (hR:R<=210000000) (hm:bdM R m) (hp:bd3 R p):CallP aa 241 [mpL m,ptL p] (ptL (m3t m p)):=by
 obtain⟨ja,cL,zC,kH⟩:=hm;refine fnP Tryz.func241 (ht:=(fun r=>LV.ren_pure r _ (ptE.pure _))) ?_;refine zg8 ?_;refine wl_regD 16 ah ?_;refine zg2 ?_;refine st_pure rfl (.loadE rfl rfl rfl rfl (mpE.csize m) (mp_at0 m) T54) ?_;refine zg1 ?_;refine cp am2 (c_FDot m.a p R J ja hp) ?_;refine zg2 ?_;refine st_pure rfl (.loadE rfl rfl rfl rfl (mpE.csize m) (mp_at9 m) T54) ?_;refine zg1 ?_;refine cp am2 (c_FDot m.b p R J cL hp) ?_;refine zg2 ?_;refine st_pure rfl (.loadE rfl rfl rfl rfl (mpE.csize m) (mp_at18 m) T54) ?_;refine zg1 ?_;refine cp am2 (c_FDot m.c p R J zC hp) ?_;refine zg5 ?_;exact nh
open H_c_Distinct in
theorem c_FApply (m:M3) (p:V3) (R:Nat) (hR:R<=210000000) (hm:bdM R m) (hp:bd3 R p) (hR2:R<=1000000):CallP aa 180 [mpL m,ptL p] (ptL (m3p m p)):=by
 have kH:=hm.2.2.2;have ht:=m3t_bd hm hp;have p9:LV.pure (mpL m)=true:=mpE.pure m;refine fnP Tryz.func180 (ht:=(fun r=>LV.ren_pure r _ (ptE.pure _))) ?_;refine zg8 ?_;refine wl_regD 6 ah ?_;refine st_pure rfl (.loadE rfl rfl rfl rfl (mpE.csize m) (at_all (mpE.csize m) rfl) T79) ?_;refine zg1 ?_;refine cp am2 (c_FTurn m p R hR hm hp) ?_;refine zg1 ?_;refine st_pure rfl (.loadE rfl rfl rfl rfl (mpE.csize m) (mp_at27 m) T54) ?_;refine cp am2 (c_FVAdd (m3t m p) m.t (6*R+4) J (ht.le J) (kH.le J)) ?_;refine zg4 ?_;exact nh
namespace H_c_MovePoles
theorem zSm {p q:Prop} (k:q) (e:p=q:=by simp only [sNF,ar,au,aq,a9,eJ,mpL_kill,kills_map poE,aA,prL_kill,kills_map prE,dfr,dfq,bA,aQ,bc,aR,bh,aZ,aS,aN,aK,aO,reduceIte,if_true,if_false,aX,LV.kill,kills];exact rfl):p:=e.mpr k
end H_c_MovePoles
open H_c_MovePoles in
theorem c_MovePoles (m:M3) (po:List PoR) (R:Nat) (hR:R<=1000000) (hm:bdM R m) (hl:po.length<=100) (cF:∀ q∈po,okP R q):CallP aa 105 [.list 12 (po.map poL),mpL m] (.list 12 ((po.map (mvP m)).map poL)):=by
 have p9:LV.pure (mpL m)=true:=mpE.pure m;refine fnP Tryz.func105 (ht:=(fun g=>LV.ren_pure g _ (pure_lst poE 12 _))) ?_;have a9:True:=trivial;have eJ:True:=trivial;refine zg18 ?_;refine wl_weak (Weak.own (t:=5) 95 12 rfl rfl) ?_;refine lp1 (fun(i:Nat) L=>(mS L [(3,⟨36,[mpL m],true⟩),(95,⟨12,((po.map (mvP m)).take i).map poL,true⟩)] [(6,nI64 i),(5,.ref 95 12 0 i),(3,.eptr 3 36 0 0),(0,.list 12 (po.map poL))])) (fun i=>i<=po.length) (fun i=>po.length-i) 0 (az _) ?_;rintro i L1 hi;refine zg9 ?_;refine wl_if rfl ?_ ?_<;>intro fB iN
 ·have hi2:i<po.length:=J;have hq:=cF _ (getD_memP hi2);have a9:(((po.map (mvP m)).take i).map poL).take i=((po.map (mvP m)).take i).map poL:=aH al;have eJ:=mapT (mvP m) po default hi2;refine zg4 ?_;refine wl_regD 15 ah ?_;refine zg1 ?_;refine st_pure rfl (.loadE rfl rfl rfl rfl (mpE.csize m) (at_all (mpE.csize m) rfl) T79) ?_;refine zg5 ?_;refine cp am2 (c_FApply m (po.getD i default).p R J hm hq.1 hR) ?_;refine zg5 ?_;refine s0bd (bdPo rfl rfl) ?_;refine zg1 ?_;refine st_store rfl (.appX (d:=95) (news:=[poL (mvP m (po.getD i default))]) rfl rfl rfl rfl al (.inl rfl) ae eI eI Z119 T119 cs B119 (.inl ⟨27,0,_,rfl,by decide,rfl,rfl,by simp,rfl,by simp [pures,poE.pure]⟩) al al ae) ?_;refine zg4 ?_;refine wl_regW (Weak.kill _ 27) ?_;refine zg1 ?_;refine bq ?_;exact cq
 obtain rfl:i=po.length:=J;rw [(aH lN:(po.map (mvP m)).take po.length=po.map (mvP m))];refine zg12 ?_;exact ret1f [95] rfl rfl (imm_refm poE rfl rfl aj)
namespace H_c_Move10
theorem zSm {p q:Prop} (k:q) (e:p=q:=by simp only [sNF,ar,au,aq,mpL_kill,kills_map ratE,kills_map poE,prL_kill,kills_map prE,dfr,dfq,bA,aQ,bc,aR,bh,aZ,aS,aN,aK,aO,reduceIte,if_true,if_false,aX,LV.kill,kills];exact rfl):p:=e.mpr k
end H_c_Move10
open H_c_Move10 in
theorem c_Move10 (d:Nat) (kV:List Rat) (m:M3) (po:List PoR) (R:Nat) (hR:R<=1000000) (hm:bdM R m) (hl:po.length<=100) (fg:kV.length<=100) (cF:∀ q∈po,okP R q):CallP aa 51 [.agg [nI64 d,.list 3 (kV.map ratL),.list 12 (po.map poL)],mpL m] (.agg [nI64 d,.list 3 (kV.map ratL),.list 12 ((po.map (mvP m)).map poL)]):=by
 have p9:LV.pure (mpL m)=true:=mpE.pure m;have bN:LV.pure (.agg [nI64 d,.list 3 (kV.map ratL),.list 12 (po.map poL)])=true:=qt;have gW:=pures_map ratE kV;have nM:=pures_map poE po;refine fnP Tryz.func51 (ht:=(fun g=>LV.ren_pure g _ (by simp [LV.pure,pures,pures_map ratE,pures_map poE,-vx]))) ?_;refine zg8 ?_;refine wl_regAW ((Weak.boxp (t:=3) (b:=3) rfl rfl (mpE.csize m) rfl p9).trans (Weak.boxp (t:=2) (b:=2) rfl rfl cs rfl bN)) ?_;refine sM ?_;refine any_hoistC 3 rfl rfl ah (.pure faA) fmV fmA ?_;refine any_hoistC 4 rfl rfl ah (.pure (.ldbx rfl gW rfl rfl)) fmV fmA ?_;refine any_hoistC 6 rfl rfl ah (.pure faA) fmV fmA ?_;refine any_hoistC 7 rfl rfl ah (.pure (.ldbx rfl nM rfl rfl)) fmV fmA ?_;refine any_hoistC 8 rfl rfl ah (.pure (.ldbx rfl p9 (mpE.csize m) rfl)) (fun b=>LV.kill_pure b _ p9) fmA ?_;refine any_1 2 _ ah rfl ?_;refine fQ ?_;refine any_1 5 _ ah rfl ?_;refine st_store rfl (.appX (d:=7) (news:=kV.map ratL) rfl rfl rfl rfl aj (.inl rfl) ae aV aV Z32a T32 rfl B32 (.inr (.inl rfl)) al al ae) ?_;refine st_nil ?_;refine any_1 9 _ ah rfl ?_;refine zSm ?_;refine st_callP rfl (.cons (.pure (pure_lst poE 12 po)) (.cons (.pure p9) .nil)) (c_MovePoles m po R hR hm hl cF) ?_
 refine st_nil ?_;refine any_1 10 _ ah rfl ?_;refine fQ ?_;refine any_1 11 _ ah rfl ?_;refine nP ?_;exact retC [7] rfl rfl rfl cs (at_all cs rfl) T61 (.agg (.cons (.pure rfl) (.cons (imm_refm ratE rfl rfl aj) (.cons (.pure (pure_lst poE 12 _)) .nil))))
def crL (d:Nat) (k:List Rat) (po:List PoR):LV:=.agg [nI64 d,.list 3 (k.map ratL),.list 12 (po.map poL)]
theorem crE (d:Nat) (k:List Rat):EncOK (crL d k) 3 true:=⟨fun _=>rfl,fun _=>rfl,fun po=>by simp [crL,LV.pure,pures,pures_map ratE,pures_map poE]⟩
theorem crAt {d:Nat} {k:List Rat} {cs:List (List PoR)} {i:Nat} (h:i<cs.length):(cs.map (crL d k))[((i:Nat):Int).toNat]?=some (crL d k (cs.getD i [])):=by
 rw [pQ,bU,ao,aB h];rfl
theorem crL_kill (d:Nat) (k:List Rat) (po:List PoR) (b:Nat):(crL d k po).kill b=crL d k po:=LV.kill_pure b _ ((crE d k).pure po)
theorem kl0 {α:Type} {e:α->LV} {sz:Nat} {ag:Bool} (he:EncOK e sz ag) (b s:Nat) (l:List α):(some (Blk.mk s (kills b (([]:List LV).take 0++l.map e)) true):Option Blk)=some ⟨s,l.map e,true⟩:=by
 rw [aZ,aR,kills_map he]
theorem crLit {P:Program} {ρ:Operand->LV} {T E:TypeId} {x:Operand} {d n:Nat} {k:List Rat} {po:List PoR} {z:LV} (hT:P.underlying T=some (.slice E)) (hz:ZeroOK P E z) (mZ:z.csize=3) (jn:z.isAgg=true) (hE:TyIs P E 3 true)
  (hx:ρ x=crL n k po):OpA P ρ d (.buildSlice T 1 #[(0,x)]) (.ref d 3 0 1) ⟨3,[po].map (crL n k),true⟩:=by
 have:=OpA.lit (P:=P) (ρ:=ρ) (d:=d) (T:=T) (n:=1) (ps:=#[(0,x)]) hT hz (by rw [jn];exact hE) mZ J J J (by
  intro p hp;simp only [bD] at hp;subst hp;refine⟨by simp,?_,by rw [hx];exact LV.pure_ne_any ((crE n k).pure _),by rw [hx];exact LV.pure_ne_tup ((crE n k).pure _)⟩;simp [lay,hx,(crE n k).csize,(crE n k).isAgg,mZ,jn])
 simpa [buildL,hx,ai] using this
namespace H_c_WithRows
theorem zSm {p q:Prop} (k:q) (e:p=q:=by simp only [sNF,ar,au,aq,prL,a9,iC,gq,kills_map ratE,kills_map prE,kills_map poE,aA,aZ,aR,prL_kill,kills_map prE,dfr,dfq,bA,aQ,bc,aR,bh,aZ,aS,aN,aK,aO,reduceIte,if_true,if_false,aX,LV.kill,kills];exact rfl):p:=e.mpr k
end H_c_WithRows
open H_c_WithRows in
theorem c_WithRows (U V:Nat) (kU kV:List Rat) (rows eo:List (List PoR)) (iI:0<eo.length) (hc:eo.length<=100) (eQ:∀ r∈eo,r.length<=100) (iE:kU.length<=100) (fg:kV.length<=100):CallP aa 69 [.agg [nI64 U,nI64 V,.list 3 (kU.map ratL),.list 3 (kV.map ratL),.list 1 (rows.map prL)],.list 3 (eo.map (crL V kV))] (.agg [nI64 U,nI64 V,.list 3 (kU.map ratL),.list 3 (kV.map ratL),.list 1 (eo.map prL)]):=by
 have bK:LV.pure (.agg [nI64 U,nI64 V,.list 3 (kU.map ratL),.list 3 (kV.map ratL),.list 1 (rows.map prL)])=true:=bH;have me:=pures_map ratE kV;have cY:=pures_map ratE kU;have dC:=pures_map prE rows;refine fnP Tryz.func69 (ht:=(fun g=>LV.ren_pure g _ bH)) ?_;have a9:True:=trivial;have iC:True:=trivial;have gq:True:=trivial;refine zg7 ?_;refine wl_cut (fun L=>∃  (L1:St),(True)/\L=(mS L1 [(4,⟨5,[.agg [.v (.int .i64 0),.v (.int .i64 0),.v (.slice none 0 0),.v (.slice none 0 0),.v (.slice none 0 0)]],true⟩),(5,⟨5,[.agg [nI64 U,nI64 V,.ref 13 3 0 kU.length,.ref 17 3 0 kV.length,.v (.slice none 0 0)]],true⟩),(13,⟨3,kU.map ratL,true⟩),(17,⟨3,kV.map ratL,true⟩)] [(5,.eptr 5 5 0 0),(4,.eptr 4 5 0 0),(2,.boxp (.agg [nI64 U,nI64 V,.list 3 (kU.map ratL),.list 3 (kV.map ratL),.list 1 (rows.map prL)])),(1,.list 3 (eo.map (crL V kV)))])) ?_ ?_
 ·refine wl_regAW (Weak.boxp (t:=2) (b:=2) rfl rfl cs rfl bK) ?_;refine sM ?_;refine any_hoistC 2 rfl rfl ah (.pure (.move _)) fmV fmA ?_;refine any_hoistC 3 rfl rfl ah (.pure (.idxL rfl tH T61 rfl J (crAt (i:=0) iI) rfl)) fmV fmA ?_;refine any_hoistC 4 rfl rfl ah (.pure faA) fmV fmA ?_;refine any_hoistC 5 rfl rfl ah (.pure ldA) fmV fmA ?_;refine any_hoistC 7 rfl rfl ah (.pure faA) fmV fmA ?_;refine any_hoistC 8 rfl rfl ah (.pure (.ldbx rfl cY rfl rfl)) fmV fmA ?_;refine any_hoistC 11 rfl rfl ah (.pure (.move _)) fmV fmA ?_;refine any_hoistC 12 rfl rfl ah (.pure (.idxL rfl tH T61 rfl J (crAt (i:=0) iI) rfl)) fmV fmA ?_;refine any_hoistC 13 rfl rfl ah (.pure faA) fmV fmA ?_;refine any_hoistC 14 rfl rfl ah (.pure (.ldbx rfl me rfl rfl)) fmV fmA ?_
  repeat' first
   | (refine any_0 ah ?_;refine zg1 ?_;exact⟨_,trivial,((put_id' (put_id' (put_id' (put_id' (mk_id' ox) cl) cl) cl) cl)).symm⟩)
   | refine any_3 6 10 17 _ _ _ ah rfl rfl rfl ?_ ?_ ?_
   | refine any_3 9 10 17 _ _ _ ah rfl rfl rfl ?_ ?_ ?_
   | refine any_2 10 17 _ _ ah rfl rfl ?_ ?_
   | refine any_2 15 17 _ _ ah rfl rfl ?_ ?_
   | refine any_2 16 17 _ _ ah rfl rfl ?_ ?_
   | refine any_1 17 _ ah rfl ?_
   | refine any_1 18 _ ah rfl ?_
   | refine any_1 16 _ ah rfl ?_
   | refine any_1 15 _ ah rfl ?_
   | refine any_1 10 _ ah rfl ?_
   | refine any_2 9 17 _ _ ah rfl rfl ?_ ?_
   | refine any_1 9 _ ah rfl ?_
   | refine any_2 9 10 _ _ ah rfl rfl ?_ ?_
   | refine any_2 6 17 _ _ ah rfl rfl ?_ ?_
   | refine any_1 6 _ ah rfl ?_
   | refine any_2 6 10 _ _ ah rfl rfl ?_ ?_
   | (refine st_store rfl (.appX (d:=13) (news:=kU.map ratL) rfl rfl rfl rfl aj (.inl rfl) ae aV aV Z32a T32 rfl B32 (.inr (.inl rfl)) al al ae) ?_;refine st_nil ?_)
   | (refine st_store rfl (.appX (d:=17) (news:=kV.map ratL) rfl rfl rfl rfl aj (.inl rfl) ae aV aV Z32a T32 rfl B32 (.inr (.inl rfl)) al al ae) ?_;refine st_nil ?_)
   | (refine zg1 ?_;refine st_nil ?_)
   | fail
 rintro _ ⟨LR1,-,rfl⟩;refine zg8 ?_;refine wl_weak ((Weak.cell 5 rfl (fun Z μ w cs h=>rep_srf 100 1 _ _ _ _ Z μ w cs h)).trans (Weak.newB _ 100 1 rfl)) ?_;refine lp1 (fun(i:Nat) L=>(mS L [(4,⟨5,[.agg [.v (.int .i64 0),.v (.int .i64 0),.v (.slice none 0 0),.v (.slice none 0 0),.v (.slice none 0 0)]],true⟩),(5,⟨5,[.agg [nI64 U,nI64 V,.ref 13 3 0 kU.length,.ref 17 3 0 kV.length,.ref 100 1 0 i]],true⟩),(13,⟨3,kU.map ratL,true⟩),(17,⟨3,kV.map ratL,true⟩),(100,⟨1,(eo.take i).map prL,true⟩)] [(6,nI64 i),(5,.eptr 5 5 0 0),(4,.eptr 4 5 0 0),(2,.boxp (.agg [nI64 U,nI64 V,.list 3 (kU.map ratL),.list 3 (kV.map ratL),.list 1 (rows.map prL)])),(1,.list 3 (eo.map (crL V kV)))])) (fun i=>i<=eo.length) (fun i=>eo.length-i) 0 (az _) ?_;rintro i L1 hi;refine zg9 ?_;refine wl_if rfl ?_ ?_<;>intro rY th
 ·have hi2:i<eo.length:=J;have hci:=eQ _ (getR_mem hi2);have nM:=pures_map poE (eo.getD i []);have iC:((eo.take i).map prL).take i=(eo.take i).map prL:=aH al;have gq:(eo.take i).map prL++[LV.list 12 ((eo.getD i []).map poL)]=(eo.take (i+1)).map prL:=by
   show (eo.take i).map prL++[prL (eo.getD i [])]=_;have:=mapT (fun r:List PoR=>r) eo [] hi2;rw [xr] at this;rw [map_snoc,this]
  refine zg4 ?_;refine wl_regV rfl (Weak.refl _) ?_;refine anyV_hoist 3 rfl rfl ah (.move _) fmV fmA ?_;refine anyV_hoist 4 rfl rfl ah (.move _) fmV fmA ?_;refine anyV_hoist 5 rfl rfl ah (.idxL rfl tH T61 rfl J (crAt (i:=i) hi2) rfl) fmV fmA ?_;refine anyV_hoist 6 rfl rfl ah faA fmV fmA ?_;refine anyV_hoist 7 rfl rfl ah (.ldbx rfl nM rfl rfl) fmV fmA ?_;refine anyV_2 0 2 ah ?_ ?_
  ·refine gn ?_;refine anyV_2 1 2 ah ?_ ?_
   ·refine gn ?_;refine anyV_1 2 ah ?_;refine gn ?_;refine anyV_1 8 ah ?_;refine sJ ?_;refine⟨⟨rfl,(kl0 poE 32 12 _),nM,aj,by decide⟩,?_⟩;refine anyV_1 9 ah ?_;refine nj ?_;exact cq
   refine gn ?_;refine anyV_2 1 8 ah ?_ ?_
   ·refine gn ?_;refine anyV_1 8 ah ?_;refine sJ ?_;refine⟨⟨rfl,(kl0 poE 32 12 _),nM,aj,by decide⟩,?_⟩;refine anyV_1 9 ah ?_;refine nj ?_;exact cq
   refine sJ ?_;refine⟨⟨rfl,(kl0 poE 32 12 _),nM,aj,by decide⟩,?_⟩;refine anyV_2 1 9 ah ?_ ?_
   ·refine gn ?_;refine anyV_1 9 ah ?_;refine nj ?_;exact cq
   refine gn ?_;refine anyV_1 1 ah ?_;refine nj ?_;exact cq
  refine gn ?_;refine anyV_2 0 8 ah ?_ ?_
  ·refine gn ?_;refine anyV_2 1 8 ah ?_ ?_
   ·refine gn ?_;refine anyV_1 8 ah ?_;refine sJ ?_;refine⟨⟨rfl,(kl0 poE 32 12 _),nM,aj,by decide⟩,?_⟩;refine anyV_1 9 ah ?_;refine nj ?_;exact cq
   refine sJ ?_;refine⟨⟨rfl,(kl0 poE 32 12 _),nM,aj,by decide⟩,?_⟩;refine anyV_2 1 9 ah ?_ ?_
   ·refine gn ?_;refine anyV_1 9 ah ?_;refine nj ?_;exact cq
   refine gn ?_;refine anyV_1 1 ah ?_;refine nj ?_;exact cq
  refine sJ ?_;refine⟨⟨rfl,(kl0 poE 32 12 _),nM,aj,by decide⟩,?_⟩;refine anyV_2 0 9 ah ?_ ?_
  ·refine gn ?_;refine anyV_2 1 9 ah ?_ ?_
   ·refine gn ?_;refine anyV_1 9 ah ?_;refine nj ?_;exact cq
   refine gn ?_;refine anyV_1 1 ah ?_;refine nj ?_;exact cq
  refine gn ?_;refine anyV_1 0 ah ?_;refine gn ?_;refine anyV_1 1 ah ?_;refine nj ?_;exact cq
 obtain rfl:i=eo.length:=J;rw [(aH (an _):eo.take eo.length=eo)];refine zg12 ?_;exact retC [13,17,100] rfl rfl rfl cs (at_all cs rfl) T29 (.agg (.cons (.pure rfl) (.cons (.pure rfl) (.cons (imm_refm ratE rfl rfl rfl) (.cons (imm_refm ratE rfl rfl rfl) (.cons (imm_refm prE rfl rfl rfl) .nil))))))
namespace H_c_Move12
theorem zSm {p q:Prop} (k:q) (e:p=q:=by simp only [sNF,ar,au,aq,prL,a9,eJ,crL_kill,mpL_kill,kills_map (crE V kV),prL_kill,kills_map prE,dfr,dfq,bA,aQ,bc,aR,bh,aZ,aS,aN,aK,aO,reduceIte,if_true,if_false,aX,LV.kill,kills];exact rfl):p:=e.mpr k
end H_c_Move12
open H_c_Move12 in
theorem c_Move12 (U V:Nat) (kU kV:List Rat) (rows:List (List PoR)) (m:M3) (h:pf 4 U V rows) (hm:bdM 4 m) (iE:kU.length<=100) (fg:kV.length<=100):CallP aa 27 [.agg [nI64 U,nI64 V,.list 3 (kU.map ratL),.list 3 (kV.map ratL),.list 1 (rows.map prL)],mpL m] (.agg [nI64 U,nI64 V,.list 3 (kU.map ratL),.list 3 (kV.map ratL),.list 1 ((rows.map fun r=>r.map (mvP m)).map prL)]):=by
 have bK:LV.pure (.agg [nI64 U,nI64 V,.list 3 (kU.map ratL),.list 3 (kV.map ratL),.list 1 (rows.map prL)])=true:=bH;have dC:=pures_map prE rows;have me:=pures_map ratE kV;have cY:=pures_map ratE kU;have eC:=h.u3;have fj:=h.v3;have jr:=h.n;have p9:=mpE.pure m;have afG:LV.pure (.agg [nI64 U,nI64 V,.list 3 (kU.map ratL),.list 3 (kV.map ratL),.list 1 ((rows.map fun r=>r.map (mvP m)).map prL)])=true:=n9;have hW:CallP aa 69 [.agg [nI64 U,nI64 V,.list 3 (kU.map ratL),.list 3 (kV.map ratL),.list 1 (rows.map prL)],.list 3 ((rows.map fun r=>r.map (mvP m)).map (crL V kV))] (.agg [nI64 U,nI64 V,.list 3 (kU.map ratL),.list 3 (kV.map ratL),.list 1 ((rows.map fun r=>r.map (mvP m)).map prL)]):=c_WithRows U V kU kV rows (rows.map fun r=>r.map (mvP m)) lN lN (fun r hr=>by obtain⟨rx,hrx,rfl⟩:=bS.1 hr;rw [aA,h.m rx hrx];omega) iE fg;refine fnP Tryz.func27 (ht:=(fun g=>LV.ren_pure g _ n9)) ?_;have a9:True:=trivial;have eJ:True:=trivial;refine zg19 ?_;refine wl_weak (Weak.own (t:=5) 95 3 rfl rfl) ?_
 refine lp1 (fun(i:Nat) L=>(mS L [(2,⟨5,[.agg [nI64 U,nI64 V,.list 3 (kU.map ratL),.list 3 (kV.map ratL),.list 1 (rows.map prL)]],true⟩),(3,⟨36,[mpL m],true⟩),(4,⟨5,[.agg [.v (.int .i64 0),.v (.int .i64 0),.v (.slice none 0 0),.v (.slice none 0 0),.v (.slice none 0 0)]],true⟩),(95,⟨3,((rows.map fun r=>r.map (mvP m)).take i).map (crL V kV),true⟩)] [(6,nI64 i),(5,.ref 95 3 0 i),(4,.eptr 4 5 0 0),(3,.eptr 3 36 0 0),(2,.eptr 2 5 0 0)])) (fun i=>i<=U+1) (fun i=>U+1-i) 0 (az _) ?_;rintro i L1 hi;refine zg10 ?_;refine wl_if rfl ?_ ?_<;>intro wy qo
 ·have hi2:i<U+1:=J;have bN:=(crE V kV).pure (rows.getD i []);have wO:=(crE V kV).pure ((rows.getD i []).map (mvP m));have et:=h.r0 (qL hi2);have a9:(((rows.map fun r=>r.map (mvP m)).take i).map (crL V kV)).take i=((rows.map fun r=>r.map (mvP m)).take i).map (crL V kV):=aH al;have eJ:=mapT (fun r:List PoR=>r.map (mvP m)) rows [] (i:=i) J;have hRo:CallP aa 68 [.agg [nI64 U,nI64 V,.list 3 (kU.map ratL),.list 3 (kV.map ratL),.list 1 (rows.map prL)],nI64 i] (crL V kV (rows.getD i [])):=c_FRow U V kU kV rows i J J;have hMo:CallP aa 51 [(crL V kV (rows.getD i [])),mpL m] (crL V kV ((rows.getD i []).map (mvP m))):=c_Move10 V kV m (rows.getD i []) 4 ae ⟨hm.1.le ae,hm.2.1.le ae,hm.2.2.1.le ae,hm.2.2.2.le ae⟩ J fg (fun q hq=>h.ok _ (getR_mem J) q hq);refine zg4 ?_;refine wl_regD 7 ah ?_;refine zg3 ?_;refine st_callP rfl (.cons (.pure bK) (.cons (.pure rfl) .nil)) hRo ?_;refine st_pure rfl (.loadE rfl rfl rfl rfl (mpE.csize m) (at_all (mpE.csize m) rfl) T79) ?_;refine zSm ?_;refine st_callP rfl (.cons (.pure bN) (.cons (.pure p9) .nil)) hMo ?_;refine st_alloc rfl rfl (crLit tH Z61 rfl rfl T61 rfl) ?_
  refine st_store rfl (.appX (d:=95) (news:=[(crL V kV ((rows.getD i []).map (mvP m)))]) rfl rfl rfl rfl aa4 (.inl rfl) ae tH tH Z61 T61 rfl B61 (.inl ⟨20,0,_,rfl,by decide,rfl,rfl,by simp,rfl,by simp [pures,(crE V kV).pure]⟩) aa4 aa4 ae) ?_;refine zg4 ?_;refine wl_regW (Weak.kill _ 20) ?_;refine zg1 ?_;refine bq ?_;exact cq
 obtain rfl:i=U+1:=J;rw [(aH lN:(rows.map fun r=>r.map (mvP m)).take (U+1)=(rows.map fun r=>r.map (mvP m)))];refine zg6 ?_;refine wl_regW (Weak.hand (t:=5) (b:=95) (crE V kV) rfl rfl al) ?_;refine zg2 ?_;refine st_callP rfl (.cons (.pure bK) (.cons (.pure (pure_lst (crE V kV) 3 _)) .nil)) hW ?_;refine zg4 ?_;exact retC [] rfl rfl rfl cs (at_all cs rfl) T29 (.pure afG)
theorem plZ36:ZeroOK aa 26 (plL []):=⟨Tryz.t26,_,by kernel_rfl,rfl,rfl,fun _ _ _=>repNil0 3⟩
instance:EC aa 26 plL 1 false []:=⟨plE,plZ36,T26⟩
theorem neqF {a b:Int} {k:IntKind} (h:a=b):binI .neq k a b=some (.bool false):=by simp [binI,h]
theorem okP.le {R S:Nat} {q:PoR} (h:okP R q) (tv:R<=S):okP S q:=⟨h.1.le tv,aw h.2.1 tv,h.2.2⟩
theorem frz_c (bs:List Nat) (c:Nat) (y:Blk) (l:List (Nat × Blk)):frzH bs ((c,y) :: l)=(c,⟨y.sz,y.vals,y.mt && !bs.contains c⟩) :: frzH bs l:=rfl
namespace H_c_IdxW
theorem zSm {p q:Prop} (k:q) (e:p=q:=by simp only [sNF,ar,au,aq,dfr,aN,aK,aO,reduceIte,if_true,if_false,aX,LV.kill,kills,aA];exact rfl):p:=e.mpr k
end H_c_IdxW
open H_c_IdxW in
theorem c_IdxW (f:Nat) (cap:List LV) (bN:pures cap=true) (hcs:∀ x∈cap,x.csize=1/\x.isAgg=false) (pr:List PoR->Bool) (l:List (List PoR)) (hl:l.length<=1048576) (hf:∀ x∈l,CallP aa f ([prL x]++cap) (bL (pr x))):CallP aa 226 [.list 1 (l.map prL),.clo f cap] (iL (fIdx pr l)):=by
 refine fnP Tryz.func226 ?_;refine zg14 ?_;refine lp1 (fun(i:Nat) L=>(mS L [] [(8,nI64 i),(7,nI64 l.length),(6,.list 1 (l.map prL)),(1,.clo f cap),(0,.list 1 (l.map prL))])) (fun i=>i<=l.length/\∀ j,j<i->pr (l.getD j default)=false) (fun i=>l.length-i) 0 ⟨az _,fun j hj=>absurd hj (acb j)⟩ ?_;rintro i L1 ⟨hi,h0⟩;refine zg6 ?_;refine wl_if rfl ?_ ?_<;>intro pz h9
 ·have hi2:i<l.length:=J;have hc:=hf _ (getD_memL hi2);have hpp:=prE.pure (l.getD i []);refine zg17 ?_;refine st_opc [] rfl rfl (.clo (f:=f) (cap:=cap) (args:=[prL (l.getD i [])]) rfl (.cons im0 .nil) ⟨bN,hcs⟩ hc.1 ae (fun _ h=>by cases h)) (hc.2 _) ?_;refine zg2 ?_;refine wl_if rfl ?_ ?_<;>intro mQ ks
  ·have hV:fIdx pr l=(i:Int):=fIdx_hit hi2 h0 (by first | exact mQ | exact ks);refine zg12 ?_;rw [hV];exact dS
  have hn:∀ j,j<i+1->pr (l.getD j default)=false:=fun j hj=>by
   rcases acB.1 hj with e | rfl
   ·exact h0 j e
   first | exact mQ | (simpa using ks)
  refine zg4 ?_;refine bq ?_;exact nx1 (i+1) ⟨J,hn⟩
 obtain rfl:i=l.length:=J;refine zg11 ?_;rw [fIdx_none h0];exact dS
open H_c_Distinct in
theorem c_HasW (f:Nat) (cap:List LV) (bN:pures cap=true) (hcs:∀ x∈cap,x.csize=1/\x.isAgg=false) (pr:List PoR->Bool) (l:List (List PoR)) (hl:l.length<=1048576) (hf:∀ x∈l,CallP aa f ([prL x]++cap) (bL (pr x))):CallP aa 156 [.list 1 (l.map prL),.clo f cap] (bL (l.any pr)):=by
 refine fnP Tryz.func156 ?_;refine zg9 ?_;refine st_callP rfl (.cons (.pure (pure_lst prE 1 _)) (.cons (.pure (show LV.pure (.clo f cap)=true by simpa [LV.pure] using bN)) .nil)) (c_IdxW f cap bN hcs pr l hl hf) ?_;refine zg5 ?_;rw [<-fIdx_any];exact dS
namespace H_c_SRc1
theorem zSm {p q:Prop} (k:q) (e:p=q:=by simp only [sNF,ar,au,aq,prL,aA,prL_kill,kills_map prE,dfr,dfq,bA,aQ,bc,aR,bh,aZ,aS,aN,aK,aO,reduceIte,if_true,if_false,aX,LV.kill,kills];exact rfl):p:=e.mpr k
end H_c_SRc1
open H_c_SRc1 in
theorem c_SRc1 (U V:Nat) (kU kV:List Rat) (rows:List (List PoR)) (r:List PoR) (hl:V+1<=kV.length) (dZ:kV.length<=1000) (hr:r.length=kV.length-V-1):CallP aa 220 [prL r,.boxp (.agg [nI64 U,nI64 V,.list 3 (kU.map ratL),.list 3 (kV.map ratL),.list 1 (rows.map prL)])] (bL false):=by
 have bK:LV.pure (.agg [nI64 U,nI64 V,.list 3 (kU.map ratL),.list 3 (kV.map ratL),.list 1 (rows.map prL)])=true:=bH;have dC:=prE.pure r;have me:=pure_lst ratE 3 kV;refine fnP Tryz.func220 ?_;refine zg13 ?_;refine cp am2 (c_KPoles kV V hl J) ?_;refine st_pure rfl (.bin rfl rfl ((neqF (by first | omega | (simp only [aA,prL];omega))))) ?_;refine zg4 ?_;exact dS
namespace H_c_SRct
theorem zSm {p q:Prop} (k:q) (e:p=q:=by simp only [sNF,ar,au,aq,prL,any_ff,aA,prL_kill,kills_map prE,dfr,dfq,bA,aQ,bc,aR,bh,aZ,aS,aN,aK,aO,reduceIte,if_true,if_false,aX,LV.kill,kills];exact rfl):p:=e.mpr k
end H_c_SRct
open H_c_SRct in
theorem c_SRct (U V:Nat) (kU kV:List Rat) (rows:List (List PoR)) (ri:kOK kU U) (qM:kOK kV V) (hn:rows.length=kU.length-U-1) (hm:∀ r∈rows,r.length=kV.length-V-1) (hq:∀ r∈rows,∀ q∈r,okP 64 q):CallP aa 136 [.agg [nI64 U,nI64 V,.list 3 (kU.map ratL),.list 3 (kV.map ratL),.list 1 (rows.map prL)]] (bL true):=by
 have bK:LV.pure (.agg [nI64 U,nI64 V,.list 3 (kU.map ratL),.list 3 (kV.map ratL),.list 1 (rows.map prL)])=true:=bH;have wH:=ri.d1;have hU6:=ri.d6;have hUl:=ri.len;have hUm:=ri.max;have sf:=qM.d1;have hV6:=qM.d6;have hVl:=qM.len;have hVm:=qM.max;have p8:pures [.boxp (.agg [nI64 U,nI64 V,.list 3 (kU.map ratL),.list 3 (kV.map ratL),.list 1 (rows.map prL)])]=true:=by simp [pures,LV.pure,pures_map ratE,pures_map prE]
 refine fnP Tryz.func136 ?_;refine zg7 ?_;refine wl_regD 17 ah ?_;refine zg7 ?_;refine cp am2 (c_KPoles kU U J J) ?_;refine zg2 ?_;refine st_pure uv faA ?_;refine st_pure uv ldA ?_;refine st_opc [1] uv rfl (.mk (caps:=[.boxp (.agg [nI64 U,nI64 V,.list 3 (kU.map ratL),.list 3 (kV.map ratL),.list 1 (rows.map prL)])]) (.cons (.eptr rfl rfl rfl cs (at_all cs rfl) bK rfl) .nil) (fun x hx=>by rw [bD.1 hx];exact⟨rfl,rfl⟩)) rfl ?_;refine st_callP uv (.cons (.pure (pure_lst prE 1 _)) (.cons (.pure (show LV.pure (.clo 220 [.boxp (.agg [nI64 U,nI64 V,.list 3 (kU.map ratL),.list 3 (kV.map ratL),.list 1 (rows.map prL)])])=true by simpa [LV.pure] using p8)) .nil)) (c_HasW 220 [.boxp (.agg [nI64 U,nI64 V,.list 3 (kU.map ratL),.list 3 (kV.map ratL),.list 1 (rows.map prL)])] p8 (fun x hx=>by rw [bD.1 hx];exact⟨rfl,rfl⟩) (fun _=>false) rows J (fun x hx=>c_SRc1 U V kU kV rows x J J (hm x hx))) ?_;refine st_pure uv (.not rfl) ?_;refine st_pure rfl (.pickT rfl ((beq_iff_eq.2 rR))) ?_;refine zg4 ?_;refine ret1 ?_ (.pure rfl)
 first | rfl | (simp only [any_ff];rfl)
open H_c_Distinct in
theorem c_Unit2 :CallP aa 28 [iL 2] (ptL ⟨0,0,1⟩):=by
 have mR:CallP aa 21 [iL 1] (ratL 1):=c_FInt 1 ae ae;refine fnP Tryz.func28 (ht:=(fun r=>LV.ren_pure r _ (ptE.pure _))) ?_;refine zg13 ?_;refine cp am1 (mR) ?_;refine zg11 ?_;exact nh
def shM (T:V3):M3:=⟨⟨1,0,0⟩,⟨0,1,0⟩,⟨0,0,1⟩,T⟩
theorem shM_bd {R:Nat} {T:V3} (h1:1<=R) (h:bd3 R T):bdM R (shM T):=by
 have e0:rl 0=1:=rfl;have e1:rl 1=1:=rfl;exact⟨⟨by show rl 1<=_;omega,by show rl 0<=_;omega,by show rl 0<=_;omega⟩,⟨by show rl 0<=_;omega,by show rl 1<=_;omega,by show rl 0<=_;omega⟩,⟨by show rl 0<=_;omega,by show rl 0<=_;omega,by show rl 1<=_;omega⟩,h⟩
open H_c_Distinct in
theorem c_FIdent :CallP aa 70 [] (mpL (⟨⟨1,0,0⟩,⟨0,1,0⟩,⟨0,0,1⟩,⟨0,0,0⟩⟩:M3)):=by
 refine fnP Tryz.func70 (ht:=(fun r=>LV.ren_pure r _ (mpE.pure _))) ?_;refine zg7 ?_;refine cp am1 (c_Unit0) ?_;refine cp am1 (c_Unit1) ?_;refine cp am1 (c_Unit2) ?_;refine st_pure rfl (bdM3 rfl rfl rfl) ?_;refine st_pure rfl (bdMp1 (a:=⟨1,0,0⟩) (b:=⟨0,1,0⟩) (c:=⟨0,0,1⟩) rfl) ?_;refine st_store rfl (.stE (e:=mpL) (l:=[⟨⟨0,0,0⟩,⟨0,0,0⟩,⟨0,0,0⟩,⟨0,0,0⟩⟩]) (a:=(⟨⟨1,0,0⟩,⟨0,1,0⟩,⟨0,0,1⟩,⟨0,0,0⟩⟩:M3)) rfl rfl rfl aj) ?_;refine zg3 ?_;exact retC [] rfl rfl rfl (mpE.csize _) (at_all (mpE.csize _) rfl) T79 (.pure (mpE.pure _))
namespace H_c_Shift
theorem zSm {p q:Prop} (k:q) (e:p=q:=by simp only [sNF,ar,au,aq,mpL_kill,aN,aK,aO,reduceIte,if_true,if_false,aX,LV.kill,kills];exact rfl):p:=e.mpr k
end H_c_Shift
open H_c_Shift in
theorem c_Shift (p q:V3) (R:Nat) (hR:R<=100000000) (hp:bd3 R p) (hq:bd3 R q):CallP aa 30 [ptL p,ptL q] (mpL (shM (v3s q p))):=by
 refine fnP Tryz.func30 (ht:=(fun r=>LV.ren_pure r _ (mpE.pure _))) ?_;refine zg9 ?_;refine cp am0 (c_FIdent) ?_;refine zg1 ?_;refine st_store rfl (.stE (e:=mpL) (l:=[⟨⟨0,0,0⟩,⟨0,0,0⟩,⟨0,0,0⟩,⟨0,0,0⟩⟩]) (a:=(⟨⟨1,0,0⟩,⟨0,1,0⟩,⟨0,0,1⟩,⟨0,0,0⟩⟩:M3)) rfl rfl rfl aj) ?_;refine zg6 ?_;refine cp am2 (c_FVSub q p R J hq hp) ?_;refine zg1 ?_;refine st_store rfl (.store (y:=mpL (⟨⟨1,0,0⟩,⟨0,1,0⟩,⟨0,0,1⟩,⟨0,0,0⟩⟩:M3)) (y':=mpL (shM (v3s q p))) rfl rfl rfl rfl rfl (mpE.csize _) (mp_put27 (⟨⟨1,0,0⟩,⟨0,1,0⟩,⟨0,0,1⟩,⟨0,0,0⟩⟩:M3) _) (by show TyIs _ _ (LV.csize (ptL _)) (LV.isAgg (ptL _));rw [ptE.csize,ptE.isAgg];exact T54) ⟨LV.pure_ne_any (ptE.pure _),LV.pure_ne_tup (ptE.pure _)⟩) ?_;refine zg4 ?_;refine st_pure rfl (.loadE rfl rfl rfl rfl (mpE.csize (shM (v3s q p))) (at_all (mpE.csize (shM (v3s q p))) rfl) T79) ?_;refine st_store rfl (.stE (e:=mpL) (l:=[⟨⟨0,0,0⟩,⟨0,0,0⟩,⟨0,0,0⟩,⟨0,0,0⟩⟩]) (a:=(shM (v3s q p))) rfl rfl rfl aj) ?_;refine zg3 ?_;exact retC [] rfl rfl rfl (mpE.csize _) (at_all (mpE.csize _) rfl) T79 (.pure (mpE.pure _))
def slL (d:Nat) (k:List Rat) (C:List Q4):LV:=.agg [nI64 d,.list 3 (k.map ratL),.list 12 (C.map q4L)]
theorem slE (d:Nat) (k:List Rat):EncOK (slL d k) 3 true:=⟨fun _=>rfl,fun _=>rfl,fun C=>by simp [slL,LV.pure,pures,pures_map ratE,pures_map q4E]⟩
theorem slL_kill (d:Nat) (k:List Rat) (b:Nat) (C:List Q4):(slL d k C).kill b=slL d k C:=LV.kill_pure b _ ((slE d k).pure C)
def hoQ (q:PoR):Q4:=⟨q.w*q.p.x,q.w*q.p.y,q.w*q.p.z,q.w⟩
theorem hoQ_bd {q:PoR} {R:Nat} (h:okP R q):bd4 (2*R) (hoQ q):=by
 obtain⟨⟨h1,h2,h3⟩,h4,_⟩:=h;have a:=rl_mul q.w q.p.x;have b:=rl_mul q.w q.p.y;have c:=rl_mul q.w q.p.z;exact⟨by show rl (q.w*q.p.x)<=_;omega,by show rl (q.w*q.p.y)<=_;omega,by show rl (q.w*q.p.z)<=_;omega,by show rl q.w<=_;omega⟩
theorem swR_col {R U V:Nat} {rows:List (List PoR)} (h:pf R U V rows) {i:Nat} (hi:i<U+1):(swR V rows).map (fun r=>r.getD i default)=rows.getD i []:=by
 have et:=h.r0 (qL hi);have hn:=h.n;refine lX (by rw [aA,swR_len,et]) fun j h1 h2=>?_;rw [adA];have hj:j<V+1:=by rw [aA,swR_len] at h1;exact h1
 have e:(swR V rows)[j]'(by rw [swR_len];exact hj)=(swR V rows).getD j []:=by rw [ao,aB (by rw [swR_len];exact hj)];rfl
 rw [e,swR_getD rows hj,ao,bU,aB J];have g:rows.getD i []=rows[i]' J:=by rw [ao,aB J];rfl
 show rows[i].getD j default=_;rw [ao,aB (by rw [<-g,et];exact hj)];simp only [iY,g]
theorem swR_swR {R U V:Nat} {rows:List (List PoR)} (h:pf R U V rows):swR U (swR V rows)=rows:=by
 have hn:=h.n;refine lX (by rw [swR_len,hn]) fun i h1 h2=>?_;have hi:i<U+1:=by rw [swR_len] at h1;exact h1
 have e:(swR U (swR V rows))[i]=(swR U (swR V rows)).getD i []:=by rw [ao,aB h1];rfl
 rw [e,swR_getD _ hi,swR_col h hi,ao,aB h2];rfl
open H_c_Distinct in
theorem c_SpVal (a b:Rat) (ha:rl a<=1000) (hb:rl b<=1000) (aW:a<=b):CallP aa 145 [spL (a,b)] (bL true):=by
 have hc:=cmpR_le.2 aW;refine fnP Tryz.func145 ?_;refine zg10 ?_;refine cp am1 (c_RValid a J) ?_;refine zg1 ?_;refine mg ?_;refine st_callP eE (.cons im0 .nil) (c_RValid b J) ?_;refine st_pure rfl (.pickT rfl ((rfl))) ?_;refine zg1 ?_;refine mg ?_;refine mg ?_;refine st_callP eE (.cons im0 (.cons im0 .nil)) (c_RCmp a b J) ?_;refine pK ?_;refine zg4 ?_;refine ret1 (x:=bL (decide (cmpR a b<=0))) rfl ?_;rw [decide_eq_true hc];exact .pure rfl
open H_c_PDom in
theorem c_Ssnd (U V:Nat) (kU kV:List Rat) (rows:List (List PoR)) (ri:kOK kU U) (qM:kOK kV V) (hn:rows.length=kU.length-U-1) (hm:∀ r∈rows,r.length=kV.length-V-1) (hq:∀ r∈rows,∀ q∈r,okP 64 q):CallP aa 74 [.agg [nI64 U,nI64 V,.list 3 (kU.map ratL),.list 3 (kV.map ratL),.list 1 (rows.map prL)]] (bL true):=by
 have bK:LV.pure (.agg [nI64 U,nI64 V,.list 3 (kU.map ratL),.list 3 (kV.map ratL),.list 1 (rows.map prL)])=true:=bH;refine fnP Tryz.func74 ?_;refine zg12 ?_;refine cp am2 (c_KCheck kU U ri) ?_;refine zg2 ?_;refine mg ?_;refine mg ?_;refine st_callP eE (.cons im0 (.cons im0 .nil)) (c_KCheck kV V qM) ?_;refine pK ?_;refine zg1 ?_;refine st_pure eE ldA ?_;refine st_callP eE (.cons im0 .nil) (c_SRct U V kU kV rows ri qM hn hm hq) ?_;refine st_pure rfl (.pickT rfl ((rfl))) ?_;refine zg4 ?_;exact dS
open H_c_Distinct in
theorem c_SurCop (q:PoR) (R:Nat) (hR:R<=1000000) (h:okP R q):CallP aa 159 [poL q] (poL q):=by
 obtain⟨hp,hw,gC⟩:=h;have hA:=c_RAdd q.w 0 (by have:rl 0=1:=rfl;omega);rw [fw] at hA;have hV:CallP aa 227 [ptL q.p,ptL ⟨0,0,0⟩] (ptL q.p):=by
  have:=c_VAdd q.p ⟨0,0,0⟩ (R+1) J ⟨aw hp.1 J,aw hp.2.1 J,aw hp.2.2 J⟩ ⟨by have:rl 0=1:=rfl;show rl 0<=_;omega,by have:rl 0=1:=rfl;show rl 0<=_;omega,by have:rl 0=1:=rfl;show rl 0<=_;omega⟩;unfold v3a at this;simp only [fw] at this;exact this
 refine fnP Tryz.func159 (ht:=(fun g=>LV.ren_pure g _ (poE.pure _))) ?_;refine zg7 ?_;refine wl_regD 9 ah ?_;refine zg2 ?_;refine s0bd bdP0 ?_;refine cp am2 (hV) ?_;refine zg2 ?_;refine fu ?_;refine cp am2 (hA) ?_;refine s0bd (bdPo (p:=q.p) (r:=q.w) rfl rfl) ?_;refine zg4 ?_;exact retC [] rfl rfl rfl cs (at_all cs rfl) T119 (.pure pu)
namespace H_c_trsp
theorem zSm {p q:Prop} (k:q) (e:p=q:=by simp only [sNF,ar,au,aq,prL,a9,iC,gq,eJ,fH,jr,kills_map prE,aA,aZ,aR,len_snoc,prL_kill,kills_map prE,dfr,dfq,bA,aQ,bc,aR,bh,aZ,aS,aN,aK,aO,reduceIte,if_true,if_false,aX,LV.kill,kills];exact rfl):p:=e.mpr k
end H_c_trsp
open H_c_trsp in
theorem c_trsp (R U V:Nat) (rows:List (List PoR)) (h:pf R U V rows):CallP aa 149 [.list 1 (rows.map prL)] (.list 1 ((swR V rows).map prL)):=by
 have dC:=pure_lst prE 1 rows;have eC:=h.u3;have fj:=h.v3;have jr:=h.n;have fH:=h.r0 (az U);have bg:=swR_len V rows;refine fnP Tryz.func149 (ht:=(fun g=>LV.ren_pure g _ (pure_lst prE 1 _))) ?_;have a9:True:=trivial;have iC:True:=trivial;have gq:True:=trivial;have eJ:True:=trivial;refine zg18 ?_;refine wl_condY (b:=_) rfl (beq_eq_false_iff_ne.2 aaI) ?_;refine zg13 ?_;refine wl_weak (Weak.own (t:=3) 36 1 rfl rfl) ?_;refine lp1 (fun(j:Nat) L=>(mS L [(36,⟨1,((swR V rows).take j).map prL,true⟩)] [(14,nI64 j),(13,nI64 (V+1)),(3,.ref 36 1 0 j),(0,.list 1 (rows.map prL))])) (fun j=>j<=V+1) (fun j=>V+1-j) 0 (az _) ?_;rintro j L1 hj;refine zg6 ?_;refine wl_if rfl ?_ ?_<;>intro il fc
 ·have bo:j<V+1:=J;have iC:(((swR V rows).take j).map prL).take j=((swR V rows).take j).map prL:=aH al;have gq:((swR V rows).take j).map prL++[LV.list 12 ((rows.map fun r=>r.getD j default).map poL)]=((swR V rows).take (j+1)).map prL:=by
   show ((swR V rows).take j).map prL++[prL (rows.map fun r=>r.getD j default)]=_;rw [map_snoc,swR_take rows bo]
  refine zg24 ?_;refine wl_weak (Weak.own (t:=5) 31 12 rfl rfl) ?_;refine lp1 (fun(i:Nat) L=>(mS L [(36,⟨1,((swR V rows).take j).map prL,true⟩),(31,⟨12,((rows.map fun r=>r.getD j default).take i).map poL,true⟩)] [(19,nI64 i),(18,nI64 (U+1)),(5,.ref 31 12 0 i),(4,nI64 j),(14,nI64 j),(13,nI64 (V+1)),(3,.ref 36 1 0 j),(0,.list 1 (rows.map prL))])) (fun i=>i<=U+1) (fun i=>U+1-i) 0 (az _) ?_;rintro i L2 hi;refine zg6 ?_;refine wl_if rfl ?_ ?_<;>intro py oA
  ·have hi2:i<U+1:=J;have et:=h.r0 (qL hi2);have a9:(((rows.map fun r=>r.getD j default).take i).map poL).take i=((rows.map fun r=>r.getD j default).take i).map poL:=aH al;have eJ:=mapT (fun r:List PoR=>r.getD j default) rows [] (i:=i) J;refine zg20 ?_;refine st_store rfl (.appX (d:=31) (news:=[poL ((rows.getD i []).getD j default)]) rfl rfl rfl rfl al (.inl rfl) ae eI eI Z119 T119 cs B119 (.inl ⟨30,0,_,rfl,by decide,rfl,rfl,by simp,rfl,by simp [pures,poE.pure]⟩) al al ae) ?_;refine zg4 ?_;refine wl_regW (Weak.kill _ 30) ?_;refine bq ?_;exact cq
  obtain rfl:i=U+1:=J;rw [(aH lN:(rows.map fun r=>r.getD j default).take (U+1)=(rows.map fun r=>r.getD j default))];refine zg5 ?_;refine wl_regW (Weak.hand (t:=5) (b:=31) poE rfl rfl al) ?_;refine zg3 ?_;refine st_store rfl (.appX (d:=36) (news:=[prL (rows.map fun r=>r.getD j default)]) rfl rfl rfl rfl lJ (.inl rfl) ae jG jG prZ T59 cs B59 (.inl ⟨35,0,_,rfl,by decide,rfl,rfl,by simp,rfl,by simp [pures,prE.pure]⟩) lJ lJ ae) ?_;refine zg4 ?_;refine wl_regW (Weak.kill _ 35) ?_;refine bq ?_;exact mH
 obtain rfl:j=V+1:=J;rw [aH (by omega:(swR V rows).length<=V+1)];refine zg12 ?_;exact ret1f [36] rfl rfl (imm_refm prE rfl rfl (swR_len V rows).symm)
end Go.Proofs.YtlipjipfpkbppaaGreat
namespace Go.Lg
theorem Weak.cellI {L:St} (b:Nat) (bs:List Nat) (h0:bs.contains 0=false) {sz:Nat} {x y:LV} {mt:Bool} (hb:(L.frz bs).heap b=some ⟨sz,[x],mt⟩) (hi:Imm (L.frz bs).heap x y):Weak L ((L.frz bs).setB b (some ⟨sz,[y],mt⟩)):=by
 rintro n W X Z0 a w ⟨bj,hsz,μ,Z,iI,hr⟩;obtain⟨Z',hc,hz⟩:=iI.widen (frz_le bs h0);refine⟨bj,hsz,μ,Z',?_,fun s=>RepV.mono hz (fun _ _ h=>h) (Frame.refl Z μ w) (hr s)⟩;have hs:∀ c,((L.frz bs).setB b (some ⟨sz,[y],mt⟩)).heap c=if c=b then some ⟨sz,[y],mt⟩ else(L.frz bs).heap c:=fun c=>rfl
 refine⟨hc.keep,hc.zone,hc.zsup,hc.zsub,hc.inj,hc.own,hc.x0,hc.xlt,hc.x1,fun c id blk g1 g2=>?_,fun c id blk g1 g2=>?_,fun c id g1=>?_⟩
 ·rw [hs] at g2;split at g2
  ·rename_i e;subst e;cases g2;exact hc.mutz c id ⟨sz,[x],mt⟩ g1 hb
  exact hc.mutz c id blk g1 g2
 ·rw [hs] at g2;split at g2
  ·rename_i e;subst e;cases g2;exact hc.frz c id ⟨sz,[x],mt⟩ g1 hb
  exact hc.frz c id blk g1 g2
 obtain⟨blk,k1,k2⟩:=hc.heap c id g1;rw [hs];by_cases e:c=b
 ·subst e;rw [if_pos rfl];rw [hb] at k1
  cases k1
  refine⟨_,rfl,?_⟩;obtain⟨cs,T,part,rest,e1,e2,e3⟩:=k2;refine⟨cs,T,part,rest,e1,e2,?_⟩;simp only [RepAll] at e3 ⊢;obtain⟨c1,c2,q1,q2,q3,q4⟩:=e3;exact⟨c1,c2,q1,q2,Imm.sound (av:=μ) hc hi q3,q4⟩
 rw [if_neg e];exact⟨blk,k1,k2⟩
end Go.Lg
namespace Go.Proofs.YtlipjipfpkbppaaGreat
open Go.Lg
theorem slAt {d:Nat} {k:List Rat} {cs:List (List Q4)} {i:Nat} (h:i<cs.length):(cs.map (slL d k))[((i:Nat):Int).toNat]?=some (slL d k (cs.getD i [])):=by
 rw [pQ,bU,ao,aB h];rfl
theorem slLit {P:Program} {ρ:Operand->LV} {T E:TypeId} {x:Operand} {d n:Nat} {k:List Rat} {C:List Q4} {z:LV} (hT:P.underlying T=some (.slice E)) (hz:ZeroOK P E z) (mZ:z.csize=3) (jn:z.isAgg=true) (hE:TyIs P E 3 true)
  (hx:ρ x=slL n k C):OpA P ρ d (.buildSlice T 1 #[(0,x)]) (.ref d 3 0 1) ⟨3,[C].map (slL n k),true⟩:=by
 have:=OpA.lit (P:=P) (ρ:=ρ) (d:=d) (T:=T) (n:=1) (ps:=#[(0,x)]) hT hz (by rw [jn];exact hE) mZ J J J (by
  intro p hp;simp only [bD] at hp;subst hp;refine⟨by simp,?_,by rw [hx];exact LV.pure_ne_any ((slE n k).pure _),by rw [hx];exact LV.pure_ne_tup ((slE n k).pure _)⟩;simp [lay,hx,(slE n k).csize,(slE n k).isAgg,mZ,jn])
 simpa [buildL,hx,ai] using this
def hoC (V:Nat) (rows:List (List PoR)):List (List Q4):=(swR V rows).map fun c=>c.map hoQ
theorem hoC_len (V:Nat) (rows:List (List PoR)):(hoC V rows).length=V+1:=by rw [hoC,aA,swR_len]
theorem hoC_get {V:Nat} (rows:List (List PoR)) {j:Nat} (h:j<V+1):(hoC V rows).getD j []=(rows.map fun r=>r.getD j default).map hoQ:=by
 rw [hoC,ao,bU,swR_at rows h];rfl
theorem hoC_take {V:Nat} (rows:List (List PoR)) {j:Nat} (h:j<V+1):(hoC V rows).take j++[(rows.map fun r=>r.getD j default).map hoQ]=(hoC V rows).take (j+1):=by
 rw [hoC,nV,bU,swR_at rows h];rfl
theorem col_ok {R U V:Nat} {rows:List (List PoR)} (h:pf R U V rows) {j:Nat} (hj:j<V+1):∀ q∈(rows.map fun r=>r.getD j default),okP R q:=fun q hq=>by
 obtain⟨r,hr,rfl⟩:=bS.1 hq;exact h.ok r hr _ (getD_memP (by rw [h.m r hr];exact hj))
theorem getD_mapP {l:List PoR} {i:Nat} (h:i<l.length):(l.map hoQ).getD i default=hoQ (l.getD i default):=by
 rw [ao,bU,ao,aB h];rfl
def kk (k:List Rat):Nat->List Rat
 | 0=>[]
 | _+1=>k
def uu (u:Nat):Nat->Nat
 | 0=>0
 | _+1=>u
theorem rep_srfL (a b d e:LV) (Z:Nat->Prop) (μ:Nat->Option Nat) (w:World) (cs:List Value) (h:Rep Z μ w (.agg [a,b,.v (.slice none 0 0),d,e]) cs):Rep Z μ w (.agg [a,b,.list 3 [],d,e]) cs:=by
 simp only [Rep,RepFs] at h ⊢;obtain⟨c1,c2,e1,e2,e3,c3,c4,e4,e5,e6,c5,c6,e7,e8,e9,qP⟩:=h;exact⟨c1,c2,e1,e2,e3,c3,c4,e4,e5,e6,c5,c6,e7,e8,⟨none,0,0,e9.1,rfl,an _,.inl trivial,rfl⟩,qP⟩
namespace H_c_alU
theorem zSm {p q:Prop} (k:q) (e:p=q:=by simp only [sNF,ar,au,aq,prL,xl,a9,iC,eJ,gq,bg,ig,fz0,frz_c,kills_map prE,aA,bA,aQ,bc,aR,bh,aZ,aS,q4L_kill,kills_map q4E,slL_kill,kills_map (slE U kU),prL_kill,kills_map prE,dfr,dfq,bA,aQ,bc,aR,bh,aZ,aS,aN,aK,aO,reduceIte,if_true,if_false,aX,LV.kill,kills];exact rfl):p:=e.mpr k
end H_c_alU
open H_c_alU in
theorem c_alU (R U V:Nat) (kU kV:List Rat) (rows:List (List PoR)) (h:pf R U V rows) (iE:kU.length<=100) (fg:kV.length<=100) (rf:∀ x∈kU,rl x<=1000) (qf:∀ x∈kV,rl x<=1000) (hR:R<=200000):CallP aa 148 [.agg [nI64 U,nI64 V,.list 3 (kU.map ratL),.list 3 (kV.map ratL),.list 1 (rows.map prL)]] (.list 3 ((hoC V rows).map (slL U kU))):=by
 have bK:LV.pure (.agg [nI64 U,nI64 V,.list 3 (kU.map ratL),.list 3 (kV.map ratL),.list 1 (rows.map prL)])=true:=bH;have dC:=pure_lst prE 1 rows;have kE:=pure_lst prE 1 (swR V rows);have cY:=pure_lst ratE 3 kU;have me:=pure_lst ratE 3 kV;have eC:=h.u3;have fj:=h.v3;have jr:=h.n;have fH:=h.r0 (az U);have bg:=swR_len V rows;have yz:=hoC_len V rows;have hT:=c_trsp R U V rows h;refine fnP Tryz.func148 (ht:=(fun g=>LV.ren_pure g _ (pure_lst (slE U kU) 3 _))) ?_;have xl:True:=trivial;have a9:True:=trivial;have iC:True:=trivial;have eJ:True:=trivial;have gq:True:=trivial;have ig:True:=trivial;refine zg16 ?_;refine cp am1 (hT) ?_;refine zg5 ?_;refine wl_weak (Weak.own (t:=3) 39 3 rfl rfl) ?_;refine lp1 (fun(j:Nat) L=>(mS L [(1,⟨5,[.agg [nI64 U,nI64 V,.list 3 (kU.map ratL),.list 3 (kV.map ratL),.list 1 (rows.map prL)]],true⟩),(39,⟨3,((hoC V rows).take j).map (slL U kU),true⟩)] [(13,nI64 j),(12,nI64 (V+1)),(11,.list 1 ((swR V rows).map prL)),(3,.ref 39 3 0 j),(1,.eptr 1 5 0 0)])) (fun j=>j<=V+1) (fun j=>V+1-j) 0 (az _) ?_;rintro j L1 hj;refine zg6 ?_;refine wl_if rfl ?_ ?_<;>intro jg gi
 ·have bo:j<V+1:=J;have xl:=swR_getD (V:=V) rows bo;have ig:(rows.map fun r=>r.getD j default).length=U+1:=by rw [aA,jr]
  have eQ:((rows.map fun r=>r.getD j default).map hoQ).length=U+1:=by rw [aA,aA,jr]
  have iC:(((hoC V rows).take j).map (slL U kU)).take j=((hoC V rows).take j).map (slL U kU):=aH al;have gq:((hoC V rows).take j).map (slL U kU)++[slL U kU ((rows.map fun r=>r.getD j default).map hoQ)]=((hoC V rows).take (j+1)).map (slL U kU):=by rw [map_snoc,hoC_take rows bo]
  refine zg31 ?_;refine wl_weak ((Weak.cell 6 rfl (fun Z μ w cs h=>rep_net 33 12 _ _ Z μ w cs h)).trans (Weak.newB _ 33 12 rfl)) ?_;refine lp1 (fun(i:Nat) L=>(mS L [(1,⟨5,[.agg [nI64 U,nI64 V,.list 3 (kU.map ratL),.list 3 (kV.map ratL),.list 1 (rows.map prL)]],true⟩),(39,⟨3,((hoC V rows).take j).map (slL U kU),true⟩),(6,⟨3,[.agg [nI64 U,.list 3 (kU.map ratL),.ref 33 12 0 i]],true⟩),(33,⟨12,(((rows.map fun r=>r.getD j default).map hoQ).take i).map q4L,true⟩)] [(24,nI64 i),(23,nI64 (U+1)),(22,.list 12 ((rows.map fun r=>r.getD j default).map poL)),(6,.eptr 6 3 0 0),(13,nI64 j),(12,nI64 (V+1)),(11,.list 1 ((swR V rows).map prL)),(3,.ref 39 3 0 j),(1,.eptr 1 5 0 0)])) (fun i=>i<=U+1) (fun i=>U+1-i) 0 (az _) ?_;rintro i L2 hi;refine zg6 ?_;refine wl_if rfl ?_ ?_<;>intro vF n6
  ·have hi2:i<U+1:=J;have cF:=col_ok h bo _ (getD_memP (po:=(rows.map fun r=>r.getD j default)) (j:=i) J);have a9:((((rows.map fun r=>r.getD j default).map hoQ).take i).map q4L).take i=(((rows.map fun r=>r.getD j default).map hoQ).take i).map q4L:=aH al;have eJ:=mapT hoQ (rows.map fun r=>r.getD j default) default (i:=i) J;have hOf:CallP aa 182 [poL ((rows.map fun r=>r.getD j default).getD i default)] (q4L (hoQ ((rows.map fun r=>r.getD j default).getD i default))):=c_Of2 ((rows.map fun r=>r.getD j default).getD i default) R J cF;refine zg12 ?_;refine wl_regD 5 ah ?_;refine zg3 ?_;refine cp am1 (hOf) ?_;refine zg1 ?_;refine st_store rfl (.appX (d:=33) (news:=[q4L (hoQ ((rows.map fun r=>r.getD j default).getD i default))]) rfl rfl rfl rfl al (.inl rfl) ae qE qE Z191 T191 cs B191 (.inl ⟨32,0,_,rfl,by decide,rfl,rfl,by simp,rfl,by simp [pures,q4E.pure]⟩) al al ae) ?_;refine zg5 ?_;refine wl_regW ((Weak.kill _ 8).trans (Weak.kill _ 32)) ?_;refine bq ?_;exact cq
  obtain rfl:i=U+1:=J;rw [(aH J:((rows.map fun r=>r.getD j default).map hoQ).take (U+1)=((rows.map fun r=>r.getD j default).map hoQ))];refine zg5 ?_;refine wl_regW ((Weak.cellI 6 [33] rfl rfl (.agg (.cons (.pure rfl) (.cons (.pure cY) (.cons (imm_refm (l:=((rows.map fun r=>r.getD j default).map hoQ)) q4E rfl rfl eQ.symm) .nil))))).trans (Weak.kill _ 33)) ?_;refine zSm ?_;refine zg2 ?_;refine zSm ?_;refine st_alloc rfl rfl (slLit yb Z155 rfl rfl T155 rfl) ?_;refine st_store rfl (.appX (d:=39) (news:=[slL U kU ((rows.map fun r=>r.getD j default).map hoQ)]) rfl rfl rfl rfl aai (.inl rfl) ae yb yb Z155 T155 rfl B155 (.inl ⟨38,0,_,rfl,by decide,rfl,rfl,by simp,rfl,by simp [pures,(slE U kU).pure]⟩) aai aai ae) ?_;refine zg4 ?_;refine wl_regW ((Weak.kill _ 6).trans (Weak.kill _ 38)) ?_;refine bq ?_;exact mH
 obtain rfl:j=V+1:=J;rw [aH (by rw [hoC_len];omega:(hoC V rows).length<=V+1)];refine zg12 ?_;exact ret1f [39] rfl rfl (imm_refm (slE U kU) rfl rfl (by rw [hoC_len]))
namespace H_c_sEach
theorem zSm {p q:Prop} (k:q) (e:p=q:=by simp only [sNF,ar,au,aq,prL,iC,a9,gq,eJ,tf,fz0,frz_c,fH,jr,kills_map prE,aA,bA,aQ,bc,aR,bh,aZ,aS,prL_kill,kills_map prE,dfr,dfq,bA,aQ,bc,aR,bh,aZ,aS,aN,aK,aO,reduceIte,if_true,if_false,aX,LV.kill,kills];exact rfl):p:=e.mpr k
end H_c_sEach
open H_c_sEach in
theorem c_sEach (R U V:Nat) (kU kV:List Rat) (rows:List (List PoR)) (h:pf R U V rows) (iE:kU.length<=100) (fg:kV.length<=100) (rf:∀ x∈kU,rl x<=1000) (qf:∀ x∈kV,rl x<=1000) (hR:R<=200000) (f:Nat) (hf:∀ q,okP R q->CallP aa f [poL q] (poL q)):CallP aa 158 [.agg [nI64 U,nI64 V,.list 3 (kU.map ratL),.list 3 (kV.map ratL),.list 1 (rows.map prL)],.clo f []] (.agg [nI64 U,nI64 V,.list 3 (kU.map ratL),.list 3 (kV.map ratL),.list 1 (rows.map prL)]):=by
 have bK:LV.pure (.agg [nI64 U,nI64 V,.list 3 (kU.map ratL),.list 3 (kV.map ratL),.list 1 (rows.map prL)])=true:=bH;have dC:=pure_lst prE 1 rows;have kE:=pure_lst prE 1 (swR V rows);have cY:=pure_lst ratE 3 kU;have me:=pure_lst ratE 3 kV;have eC:=h.u3;have fj:=h.v3;have jr:=h.n;have fH:=h.r0 (az U);have bg:=swR_len V rows;have yz:=hoC_len V rows;have hT:=c_trsp R U V rows h;have yC:=c_SpCop kU J (fun x hx=>aw (rf x hx) ae);have xw:=c_SpCop kV J (fun x hx=>aw (qf x hx) ae);refine fnP Tryz.func158 (ht:=(fun g=>LV.ren_pure g _ bH)) ?_;have iC:True:=trivial;have a9:True:=trivial;have gq:True:=trivial;have eJ:True:=trivial;have tf:True:=trivial;refine zg7 ?_;refine wl_regD 12 ah ?_;refine zg6 ?_;refine cp am1 (yC) ?_;refine zg2 ?_;refine cp am1 (xw) ?_;refine zg15 ?_;refine wl_weak (((Weak.kill _ 2).trans (Weak.cell 5 rfl (fun Z μ w cs h=>rep_srf 46 1 _ _ _ _ Z μ w cs h))).trans (Weak.newB _ 46 1 rfl)) ?_
 refine lp1 (fun(i:Nat) L=>(mS L [(4,⟨5,[.agg [.v (.int .i64 0),.v (.int .i64 0),.v (.slice none 0 0),.v (.slice none 0 0),.v (.slice none 0 0)]],true⟩),(5,⟨5,[.agg [nI64 U,nI64 V,.list 3 (kU.map ratL),.list 3 (kV.map ratL),.ref 46 1 0 i]],true⟩),(46,⟨1,(rows.take i).map prL,true⟩)] [(25,nI64 i),(24,nI64 (U+1)),(23,.list 1 (rows.map prL)),(5,.eptr 5 5 0 0),(4,.eptr 4 5 0 0),(1,.clo f [])])) (fun i=>i<=U+1) (fun i=>U+1-i) 0 (az _) ?_;rintro i L1 hi;refine zg6 ?_;refine wl_if rfl ?_ ?_<;>intro af4 h26
 ·have hi2:i<U+1:=J;have tf:=h.r0 (qL hi2);have iC:((rows.take i).map prL).take i=(rows.take i).map prL:=aH al;have gq:(rows.take i).map prL++[LV.list 12 ((rows.getD i []).map poL)]=(rows.take (i+1)).map prL:=by
   show (rows.take i).map prL++[prL (rows.getD i [])]=_;have:=mapT (fun r:List PoR=>r) rows [] (i:=i) J;rw [xr] at this;rw [map_snoc,this]
  refine zg25 ?_;refine wl_weak (Weak.own (t:=8) 40 12 rfl rfl) ?_;refine lp1 (fun(j:Nat) L=>(mS L [(4,⟨5,[.agg [.v (.int .i64 0),.v (.int .i64 0),.v (.slice none 0 0),.v (.slice none 0 0),.v (.slice none 0 0)]],true⟩),(5,⟨5,[.agg [nI64 U,nI64 V,.list 3 (kU.map ratL),.list 3 (kV.map ratL),.ref 46 1 0 i]],true⟩),(46,⟨1,(rows.take i).map prL,true⟩),(40,⟨12,((rows.getD i []).take j).map poL,true⟩)] [(31,nI64 j),(30,nI64 (V+1)),(29,.list 12 ((rows.getD i []).map poL)),(8,.ref 40 12 0 j),(25,nI64 i),(24,nI64 (U+1)),(23,.list 1 (rows.map prL)),(5,.eptr 5 5 0 0),(4,.eptr 4 5 0 0),(1,.clo f [])])) (fun j=>j<=V+1) (fun j=>V+1-j) 0 (az _) ?_;rintro j L2 hj;refine zg6 ?_;refine wl_if rfl ?_ ?_<;>intro uB h32
  ·have bo:j<V+1:=J;have cF:=h.ok _ (getR_mem J) _ (getD_memP (po:=(rows.getD i [])) (j:=j) J);have hc:=hf _ cF;have a9:(((rows.getD i []).take j).map poL).take j=((rows.getD i []).take j).map poL:=aH al;have eJ:(rows.getD i []).take j++[((rows.getD i []).getD j default)]=(rows.getD i []).take (j+1):=by
    have:=mapT (fun q:PoR=>q) (rows.getD i []) default (i:=j) J;rwa [xr] at this
   refine zg16 ?_;refine st_opc [] rfl rfl (.clo (f:=f) (cap:=[]) (args:=[poL ((rows.getD i []).getD j default)]) rfl (.cons im0 .nil) ⟨rfl,fun _ h=>by cases h⟩ hc.1 ae (fun _ h=>by cases h)) (hc.2 _) ?_;refine zg1 ?_;refine st_store rfl (.appX (d:=40) (news:=[poL ((rows.getD i []).getD j default)]) rfl rfl rfl rfl tr (.inl rfl) ae eI eI Z119 T119 cs B119 (.inl ⟨39,0,_,rfl,by decide,rfl,rfl,by simp,rfl,by simp [pures,poE.pure]⟩) tr tr ae) ?_;refine zg4 ?_;refine wl_regW ((Weak.kill _ 10).trans (Weak.kill _ 39)) ?_;refine bq ?_;exact mH
  obtain rfl:j=V+1:=J;rw [(aH J:(rows.getD i []).take (V+1)=(rows.getD i []))];refine zg5 ?_;refine wl_regW (Weak.hand (t:=8) (b:=40) poE rfl rfl J) ?_;refine zg4 ?_;refine st_store rfl (.appX (d:=46) (news:=[prL (rows.getD i [])]) rfl rfl rfl rfl lJ (.inl rfl) ae jG jG prZ T59 cs B59 (.inl ⟨45,0,_,rfl,by decide,rfl,rfl,by simp,rfl,by simp [pures,prE.pure]⟩) lJ lJ ae) ?_;refine zg5 ?_;refine wl_regW (Weak.kill _ 45) ?_;refine bq ?_;exact cq
 obtain rfl:i=U+1:=J;rw [aH (by omega:rows.length<=U+1)];refine zg12 ?_;exact retC [46] rfl rfl rfl cs (at_all cs rfl) T29 (.agg (.cons (.pure rfl) (.cons (.pure rfl) (.cons (.pure cY) (.cons (.pure me) (.cons (imm_refm (l:=rows) prE rfl rfl jr.symm) .nil))))))
namespace H_c_Swp1
theorem zSm {p q:Prop} (k:q) (e:p=q:=by simp only [sNF,ar,au,aq,prL,dfr,aA,prL_kill,kills_map prE,dfr,dfq,bA,aQ,bc,aR,bh,aZ,aS,aN,aK,aO,reduceIte,if_true,if_false,aX,LV.kill,kills];exact rfl):p:=e.mpr k
end H_c_Swp1
open H_c_Swp1 in
theorem c_Swp1 (U V:Nat) (kU kV:List Rat) (rows:List (List PoR)) (r:List PoR) (h0:0<rows.length) (hr:r.length=(rows.getD 0 []).length):CallP aa 157 [prL r,.boxp (.agg [nI64 U,nI64 V,.list 3 (kU.map ratL),.list 3 (kV.map ratL),.list 1 (rows.map prL)])] (bL false):=by
 have bK:LV.pure (.agg [nI64 U,nI64 V,.list 3 (kU.map ratL),.list 3 (kV.map ratL),.list 1 (rows.map prL)])=true:=bH;have aiG:=prE.pure r;have aiw:=pures_map prE rows;have aiz:=pure_lst prE 1 rows;refine fnP Tryz.func157 ?_;refine zg14 ?_;refine st_pure rfl (.bin rfl rfl ((neqF (by first | omega | (simp only [aA,prL,dfr,t0];omega))))) ?_;refine zg4 ?_;exact dS
namespace H_c_sSwap
theorem zSm {p q:Prop} (k:q) (e:p=q:=by simp only [sNF,ar,au,aq,prL,any_ff,jr,aA,prL_kill,kills_map prE,dfr,dfq,bA,aQ,bc,aR,bh,aZ,aS,aN,aK,aO,reduceIte,if_true,if_false,aX,LV.kill,kills];exact rfl):p:=e.mpr k
end H_c_sSwap
open H_c_sSwap in
theorem c_sSwap (R U V:Nat) (kU kV:List Rat) (rows:List (List PoR)) (h:pf R U V rows) (iE:kU.length<=100) (fg:kV.length<=100) (rf:∀ x∈kU,rl x<=1000) (qf:∀ x∈kV,rl x<=1000) (hR:R<=200000):CallP aa 85 [.agg [nI64 U,nI64 V,.list 3 (kU.map ratL),.list 3 (kV.map ratL),.list 1 (rows.map prL)]] (.agg [nI64 V,nI64 U,.list 3 (kV.map ratL),.list 3 (kU.map ratL),.list 1 ((swR V rows).map prL)]):=by
 have bK:LV.pure (.agg [nI64 U,nI64 V,.list 3 (kU.map ratL),.list 3 (kV.map ratL),.list 1 (rows.map prL)])=true:=bH;have dC:=pure_lst prE 1 rows;have kE:=pure_lst prE 1 (swR V rows);have cY:=pure_lst ratE 3 kU;have me:=pure_lst ratE 3 kV;have eC:=h.u3;have fj:=h.v3;have jr:=h.n;have fH:=h.r0 (az U);have bg:=swR_len V rows;have yz:=hoC_len V rows;have hT:=c_trsp R U V rows h;have yC:=c_SpCop kU J (fun x hx=>aw (rf x hx) ae);have xw:=c_SpCop kV J (fun x hx=>aw (qf x hx) ae);have aeF:LV.pure (.agg [nI64 V,nI64 U,.list 3 (kV.map ratL),.list 3 (kU.map ratL),.list 1 ((swR V rows).map prL)])=true:=bH;have p8:pures [.boxp (.agg [nI64 U,nI64 V,.list 3 (kU.map ratL),.list 3 (kV.map ratL),.list 1 (rows.map prL)])]=true:=by simp [pures,LV.pure,pures_map ratE,pures_map prE]
 have hEa:=c_sEach R U V kU kV rows h iE fg rf qf hR 159 (fun q hq=>c_SurCop q R J hq);refine fnP Tryz.func85 (ht:=(fun g=>LV.ren_pure g _ bH)) ?_;refine zg14 ?_;refine st_pure xe faA ?_;refine st_pure xe ldA ?_;refine st_opc [1] xe rfl (.mk (caps:=[.boxp (.agg [nI64 U,nI64 V,.list 3 (kU.map ratL),.list 3 (kV.map ratL),.list 1 (rows.map prL)])]) (.cons (.eptr rfl rfl rfl cs (at_all cs rfl) bK rfl) .nil) (fun x hx=>by rw [bD.1 hx];exact⟨rfl,rfl⟩)) rfl ?_;refine st_callP xe (.cons (.pure (pure_lst prE 1 _)) (.cons (.pure (show LV.pure (.clo 157 [.boxp (.agg [nI64 U,nI64 V,.list 3 (kU.map ratL),.list 3 (kV.map ratL),.list 1 (rows.map prL)])])=true by simpa [LV.pure] using p8)) .nil)) (c_HasW 157 [.boxp (.agg [nI64 U,nI64 V,.list 3 (kU.map ratL),.list 3 (kV.map ratL),.list 1 (rows.map prL)])] p8 (fun x hx=>by rw [bD.1 hx];exact⟨rfl,rfl⟩) (fun _=>false) rows J (fun x hx=>c_Swp1 U V kU kV rows x J (by rw [h.m x hx,fH]))) ?_;refine st_pure rfl (.pickT rfl ((decide_eq_true aaI))) ?_;refine zg2 ?_;refine wl_condY (b:=_) rfl (by first | rfl | exact any_ff _) ?_;refine zg5 ?_;refine cp am2 (hEa) ?_;refine zg5 ?_;refine wl_regD 12 ah ?_;refine zg10 ?_;refine cp am1 (hT) ?_;refine st_pure rfl aec ?_;refine zg4 ?_;exact retC [] rfl rfl rfl cs (at_all cs rfl) T29 (.pure aeF)
theorem kn2_tm (d:Nat) (a b t:Rat):tmN (kn2 d a b) t (kn2 d a b).length=(if a=t then d+1 else 0)+(if b=t then d+1 else 0):=by
 have h:=tm_app (ai (d+1) a) (ai (d+1) b) t (d+1);rw [mj] at h;have e:(kn2 d a b).length=d+1+(d+1):=lj;rw [e];show tmN (ai (d+1) a++_) t _=_;rw [h,tm_const _ _ _ _ (an _),tm_const _ _ _ _ (an _)]
theorem kn2_ok {d:Nat} {a b:Rat} (h1:1<=d) (h6:d<=6) (aW:a<b) (hT:rl a<=64) (fU:rl b<=64):kOK (kn2 d a b) d:=by
 have hl:=kn2_len d a b;have ak:a≠b:=ay;have e0:(kn2 d a b).getD 0 0=a:=by rw [kn2_get _ _ _ _ J,if_pos J]
 have e1:(kn2 d a b).getD ((kn2 d a b).length-1) 0=b:=by rw [hl,kn2_get _ _ _ _ J,if_neg J]
 have hm:∀ x∈kn2 d a b,x=a\/x=b:=fun x hx=>by
  rcases eF.1 hx with h | h
  ·exact .inl (jE.1 h).2
  exact .inr (jE.1 h).2
 refine⟨h1,h6,J,J,fun i hi=>?_,by rw [e0,e1];exact ak,fun t ht he=>?_,fun t ht g0 g1=>?_,fun x hx=>?_⟩
 ·rw [kn2_get _ _ _ _ J,kn2_get _ _ _ _ J];split<;>split
  ·exact dD
  ·grind
  ·omega
  exact dD
 ·rw [kn2_tm];rcases hm t ht with rfl | rfl
  ·rw [if_pos rfl,if_neg (fun e=>ak e.symm)]
  rw [if_neg ak,if_pos rfl,Nat.zero_add]
 ·rw [e0] at g0;rw [e1] at g1;rcases hm t ht with h | h
  ·exact absurd h g0
  exact absurd h g1
 rcases hm x hx with rfl | rfl<;>assumption
theorem ds_kn2a {d:Nat} {a b:Rat}:∀ i,i+1<=d+1->dsN (kn2 d a b) (i+1)=[a]
 | 0,_=>by rw [dsN,if_pos (.inl rfl),kn2_lo];rfl
 | i+1,h=>by
  rw [ds_n J (by rw [kn2_get _ _ _ _ J,kn2_get _ _ _ _ J,if_pos J,if_pos J]),ds_kn2a i J]
theorem ds_kn2b {d:Nat} {a b:Rat} (aW:a<b):∀ i,i+1<=d+1->dsN (kn2 d a b) (d+1+(i+1))=[a,b]
 | 0,_=>by
  rw [<-fT,ds_y J (by rw [kn2_get _ _ _ _ J,kn2_get _ _ _ _ J,if_neg J,if_pos J];grind),Nat.add_zero,ds_kn2a d J,kn2_get _ _ _ _ J,if_neg J];rfl
 | i+1,h=>by
  rw [<-fT,ds_n J (by rw [kn2_get _ _ _ _ J,kn2_get _ _ _ _ J,if_neg J,if_neg J]),ds_kn2b aW i J]
theorem ds_kn2 {d:Nat} {a b:Rat} (aW:a<b):dsN (kn2 d a b) (kn2 d a b).length=[a,b]:=by
 have:=ds_kn2b (d:=d) aW d (an _);rwa [show d+1+(d+1)=(kn2 d a b).length by rw [kn2_len];omega] at this
theorem spu (a b:Rat):spL (a,b)=.agg [ratL a,ratL b]:=by unfold spL;rfl
namespace H_c_InsC
theorem zSm {p q:Prop} (k:q) (e:p=q:=by simp only [sNF,ar,au,aq,Nat.sub_zero,Nat.add_zero,qC,hls,hcA,hcB,hcC,hcD,aO,reduceIte,if_true,if_false,kills_map ratE,ratL_kill,LV.kill,kills];exact rfl):p:=e.mpr k
end H_c_InsC
open H_c_InsC in
theorem c_InsC (k:List Rat) (i:Nat) (t:Rat) (cp:Nat) (hi:i<k.length) (bN:k.length<=cp) (hl:k.length<=1000):CallOKC aa 222 ⟨3,[ratL t],true⟩ ⟨3,(k.map ratL),true⟩ [.refc 1 3 0 k.length cp,nI64 i,.ref 0 3 0 1] (.ref 1 3 0 (k.length+1)) ⟨3,[ratL t],true⟩ [⟨3,((k.take i++t :: k.drop i).map ratL),true⟩]:=by
 have lO:(k.map ratL).length=k.length:=aA _;have qC:i+(k.length+1-i)=k.length+1:=J;have hls:k.length+1-(i+1)=k.length-i:=J;have mn:(ai (k.length+1-i) (ratL 0))=ratL 0 :: ai (k.length-i) (ratL 0):=by rw [show k.length+1-i=(k.length-i)+1 by omega,List.replicate_succ]
 have vo:((k.map ratL).take i).length=i:=by rw [bZ,lO];omega
 have hcA:((k.map ratL).take i++(ai (k.length+1-i) (ratL 0))).take i++[ratL t]++((k.map ratL).take i++(ai (k.length+1-i) (ratL 0))).drop (i+[ratL t].length)=((k.map ratL).take i++ratL t :: ai (k.length-i) (ratL 0)):=by
  rw [mn,x8 vo,<-je,tB vo];simp
 have eX:((k.map ratL).drop i).length=k.length-i:=by rw [fJ,lO]
 have hcB:((k.map ratL).take i++ratL t :: ai (k.length-i) (ratL 0)).take (i+1)++((k.map ratL).drop i)++((k.map ratL).take i++ratL t :: ai (k.length-i) (ratL 0)).drop (i+1+((k.map ratL).drop i).length)=((k.take i++t :: k.drop i).map ratL):=by
  have e1x:((k.map ratL).take i++ratL t :: ai (k.length-i) (ratL 0))=((k.map ratL).take i++[ratL t])++ai (k.length-i) (ratL 0):=aj;have h1:((k.map ratL).take i++[ratL t]).length=i+1:=by simp [vo]
  rw [e1x,x8 h1,<-je,tB h1,eX,ep (l:=ai (k.length-i) (ratL 0)) aj];simp
 have zU:(k.map ratL).drop (i+1+((k.map ratL).drop i).length)=[]:=ep (by rw [eX,lO];omega);have hcC:(k.map ratL).take (i+1)++((k.map ratL).drop i)++(k.map ratL).drop (i+1+((k.map ratL).drop i).length)=(k.map ratL).take (i+1)++((k.map ratL).drop i):=by rw [zU,aS]
 have hcD:((k.map ratL).take (i+1)++((k.map ratL).drop i)).take i++[ratL t]++((k.map ratL).take (i+1)++((k.map ratL).drop i)).drop (i+[ratL t].length)=((k.take i++t :: k.drop i).map ratL):=by
  have h1:((k.map ratL).take (i+1)).length=i+1:=by rw [bZ,lO];omega
  rw [aao J,List.take_take,eP J];rw [show i+[ratL t].length=i+1 from rfl,tB h1];simp
 have mY:pures ((k.take i++t :: k.drop i).map ratL)=true:=pures_map ratE _;refine fnC Tryz.func222 ?_;refine zg9 ?_;refine st_pure rfl (.sliceC (a:=i) (h:=k.length) rfl aV T32 (fun y hy=>by cases hy;exact⟨_,rfl⟩) (fun h=>by cases h) (fun y hy=>by cases hy) (fun _=>rfl) J J J) ?_;refine zg16 ?_;refine wl_condY (b:=_) rfl (rfl) ?_;refine zg17 ?_;refine wl_condY (b:=_) rfl (beq_eq_false_iff_ne.2 J) ?_;refine zg7 ?_;refine st_pure rfl (.bin rfl rfl (add64N (a:=k.length) (b:=1) J)) ?_;refine zg1 ?_;refine st_pure rfl (.capC rfl rfl UN.h) ?_;refine zg3 ?_;refine wl_if rfl ?_ ?_<;>intro aaA yD
 ·refine zg4 ?_;refine st_pure rfl (.sliceC (a:=0) (h:=i) rfl aV T32 (fun y hy=>by cases hy) (fun _=>rfl) (fun y hy=>by cases hy;exact⟨_,rfl⟩) (fun h=>by cases h) J J J) ?_;refine zg2 ?_;refine st_pure rfl (.bin rfl rfl (add64N (a:=k.length) (b:=1) J)) ?_;refine zg1 ?_;refine st_pure rfl (.bin rfl rfl (subNN (a:=k.length+1) (b:=i) (c:=k.length+1-i) J J)) ?_;refine st_opm rfl rfl (.appzC (d:=40) (n:=k.length+1-i) (len:=i) (cp:=cp) (b:=1) (sz:=3) (z:=ratL 0) (blk:=⟨3,(k.map ratL),true⟩) aV Tryz.underlying3 (ratL_zero ▸ Z32a) (by rw [ratE.isAgg];exact T32) (ratE.csize 0) B32 rfl rfl rfl (by rw [lO];omega) rfl rfl J ae J J) ?_;refine zg7 ?_
  try refine zSm ?_
  refine st_pure rfl aav ?_;refine zg1 ?_
  try refine zSm ?_
  refine st_store rfl (.cpyG (b:=40) (sz:=3) (off:=i) (n1:=k.length+1-i) (c:=0) (off2:=0) (n2:=1) (news:=[ratL t]) rfl rfl rfl rfl (by rw [cZ,vo];omega) aV aV T32 rfl rfl rfl (by show 1=min _ _;rw [eP J]) (adf) (an 1) rfl) ?_;refine zg3 ?_;refine wl_regDW 8 ah (Weak.ofRefc (t:=0) rfl) ?_
  try refine zSm ?_
  refine zg3 ?_;refine st_pure rfl (.bin rfl rfl (add64N (a:=i) (b:=1) J)) ?_;refine st_pure rfl aa6 ?_;refine zg2 ?_;refine st_pure rfl (.sliceR (a:=i) (h:=k.length) rfl aV T32 (fun y hy=>by cases hy;exact⟨_,rfl⟩) (fun h=>by cases h) (fun y hy=>by cases hy) (fun _=>rfl) om om om) ?_
  try refine zSm ?_
  refine st_store rfl (.cpyG (b:=40) (sz:=3) (off:=i+1) (n1:=k.length-i) (c:=1) (off2:=i) (n2:=k.length-i) (news:=((k.map ratL).drop i)) rfl rfl rfl rfl (by rw [cZ,vo,aQ,mj];omega) aV aV T32 rfl rfl rfl (by show _=min _ _;rw [eX,Nat.min_self]) (by rw [eX];omega) (by rw [eX,lO];omega) (eZ).symm) ?_;refine zg10 ?_;refine⟨_,Weak.kill _ 1,?_⟩
  try refine zSm ?_
  exact retCNr rfl rfl rfl (by simp [pures,ratE.pure]) ae aj rfl mY
 refine zg7 ?_;refine st_pure rfl (.bin rfl rfl (add64N (a:=k.length) (b:=1) J)) ?_;refine st_pure rfl (.sliceC (a:=0) (h:=k.length+1) rfl aV T32 (fun y hy=>by cases hy) (fun _=>rfl) (fun y hy=>by cases hy;exact⟨_,rfl⟩) (fun h=>by cases h) J J J) ?_;refine zg5 ?_;refine wl_regW (Weak.ofRefc (t:=0) rfl) ?_
 try refine zSm ?_
 refine zg4 ?_;refine st_pure rfl (.bin rfl rfl (add64N (a:=i) (b:=1) J)) ?_;refine st_pure rfl aa6 ?_
 try refine zSm ?_
 refine st_opm rfl rfl (.ovl (ag:=true) Tryz.func267 rfl rfl rfl rfl aV T32 rfl rfl ae ae J ae) ?_;refine zg3 ?_;refine wl_condX (b:=_) rfl (rfl) ?_;refine zg1 ?_;refine wl_regD 8 ah ?_;refine zg3 ?_;refine st_pure rfl (.bin rfl rfl (add64N (a:=i) (b:=1) J)) ?_;refine st_pure rfl aa6 ?_;refine zg2 ?_;refine st_pure rfl aav ?_
 try refine zSm ?_
 refine st_store rfl (.cpyG (b:=1) (sz:=3) (off:=i+1) (n1:=k.length-i) (c:=1) (off2:=i) (n2:=k.length+1-i) (news:=((k.map ratL).drop i)) rfl rfl rfl rfl (by rw [lO];omega) aV aV T32 rfl rfl rfl (by show _=min _ _;rw [eX,Nat.min_eq_right J]) (by rw [eX];omega) (by rw [eX,lO];omega) (eZ).symm) ?_;refine zg6 ?_;refine st_pure rfl aav ?_;refine zg1 ?_
 try refine zSm ?_
 refine st_store rfl (.cpyG (b:=1) (sz:=3) (off:=i) (n1:=k.length+1-i) (c:=0) (off2:=0) (n2:=1) (news:=[ratL t]) rfl rfl rfl rfl (by rw [cZ,bZ,lO,eX];omega) aV aV T32 rfl rfl rfl (by show 1=min _ _;rw [eP J]) (adf) (an 1) rfl) ?_;refine zg10 ?_;refine⟨_,Weak.refl _,?_⟩
 try refine zSm ?_
 exact retCNr rfl rfl rfl (by simp [pures,ratE.pure]) ae aj rfl mY
theorem c_Ins (k:List Rat) (i:Nat) (t:Rat) (hi:i<k.length) (hl:k.length<=1000) :
  CallOKC aa 222 ⟨3,[ratL t],true⟩ ⟨3,(k.map ratL),true⟩ [.ref 1 3 0 k.length,nI64 i,.ref 0 3 0 1] (.ref 1 3 0 (k.length+1)) ⟨3,[ratL t],true⟩ [⟨3,((k.take i++t :: k.drop i).map ratL),true⟩] :=
 callOKC_cap J fun cp h=>c_InsC k i t cp hi h hl
theorem fy0 (bs:List Nat):frzH bs []=[]:=rfl
theorem fyc (bs:List Nat) (c:Nat) (y:Blk) (l:List (Nat × Blk)):frzH bs ((c,y) :: l)=(c,⟨y.sz,y.vals,y.mt && !bs.contains c⟩) :: frzH bs l:=rfl
theorem hp_noneU {l:List (Nat × Blk)} {c:Nat} (h:∀ x∈l.map (·.1),x≠c):hp l c=none:=by
 induction l with
 | nil=>rfl
 | cons q t ih =>
  obtain⟨d,y⟩:=q;have e:iS c d=false:=by
   rw [<-so,te];exact fun e=>h d aj e.symm
  simp only [hp,e,cond_false];exact ih fun x hx=>h x (by simp only [gA,bp];exact .inr hx)
def gsj (f:Nat->Rat) (v:List Rat) (j:Nat):List Rat:=(b9 v.length).map fun i=>if j<i then v.getD (i-1) 0+f i*(v.getD i 0-v.getD (i-1) 0) else v.getD i 0
theorem gsj_len (f:Nat->Rat) (v:List Rat) (j:Nat):(gsj f v j).length=v.length:=by simp [gsj]
theorem gsj_get (f:Nat->Rat) (v:List Rat) (j i:Nat) (h:i<v.length):(gsj f v j).getD i 0=if j<i then v.getD (i-1) 0+f i*(v.getD i 0-v.getD (i-1) 0) else v.getD i 0:=by
 unfold gsj;rw [ao,bU,vA h];rfl
theorem gsj_top (f:Nat->Rat) (v:List Rat) (j:Nat) (h:v.length<=j+1):gsj f v j=v :=
 rext (gsj_len f v j) fun i hi=>by
  rw [gsj_len] at hi;rw [gsj_get f v j i hi,if_neg J]
theorem gsj_set (f:Nat->Rat) (v:List Rat) (j:Nat) (h0:0<j) (h:j<v.length):(gsj f v j).set j (v.getD (j-1) 0+f j*(v.getD j 0-v.getD (j-1) 0))=gsj f v (j-1) :=
 rext (by rw [uW,gsj_len,gsj_len]) fun i hi=>by
  rw [uW,gsj_len] at hi;rw [gsj_get f v (j-1) i hi,ao,List.getElem?_set];by_cases e:j=i
  ·subst e;rw [if_pos rfl,if_pos (by rw [gsj_len];exact h),if_pos J];rfl
  rw [if_neg e,<-ao,gsj_get f v j i hi];by_cases g:j<i
  ·rw [if_pos g,if_pos J]
  rw [if_neg g,if_neg J]
def gfi (F:Nat->Nat->Rat) (v:List Rat):Nat->List Rat
 | 0=>v
 | r+1=>gsj (F r) (gfi F v r) r
theorem gfi_len (F:Nat->Nat->Rat) (v:List Rat):∀ r,(gfi F v r).length=v.length
 | 0=>rfl
 | r+1=>by rw [gfi,gsj_len,gfi_len F v r]
theorem gsj_rl {f:Nat->Rat} {v:List Rat} {Q R j:Nat} (hf:∀ i,j<i->i<v.length->rl (f i)<=Q) (hR:1<=R) (hv:∀ x∈v,rl x<=R):∀ x∈gsj f v j,rl x<=3*R+Q+2:=fun x hx=>by
 obtain⟨i,hi,rfl⟩:=mem_getD hx;rw [gsj_len] at hi;rw [gsj_get f v j i hi];have a:=getD_rl hR hv i;have b:=getD_rl hR hv (i-1);split
 ·rename_i g;have h0:=hf i g hi;have h1:=rl_sub (v.getD i 0) (v.getD (i-1) 0);have h2:=rl_mul (f i) (v.getD i 0-v.getD (i-1) 0);have h3:=rl_add (v.getD (i-1) 0) (f i*(v.getD i 0-v.getD (i-1) 0));omega
 omega
theorem gfi_rl {F:Nat->Nat->Rat} {v:List Rat} {Q R n:Nat} (hQ:∀ r i,r<n->r<i->i<v.length->rl (F r i)<=Q) (hR:1<=R) (hv:∀ x∈v,rl x<=R):∀ r,r<=n->∀ x∈gfi F v r,rl x<=bfS Q R r
 | 0,_=>hv
 | r+1,h=>gsj_rl (fun i h1 h2=>hQ r i J h1 (by rwa [gfi_len] at h2)) (bfS_pos hR r) (gfi_rl hQ hR hv r J)
def gF (k:List Rat) (d pc:Nat) (args:List Rat) (r j:Nat):Rat:=(args.getD r 0-k.getD (pc-d+j) 0)/(k.getD (pc+j-r) 0-k.getD (pc-d+j) 0)
def gbl (k:List Rat) (d pc:Nat) (v args:List Rat):Rat:=(gfi (gF k d pc args) ((v.drop (pc-d)).take (d+1)) d).getD d 0
def gpol (k:List Rat) (d pc:Nat) (C:List Q4) (args:List Rat):Q4:=⟨gbl k d pc (C.map (·.x)) args,gbl k d pc (C.map (·.y)) args,gbl k d pc (C.map (·.z)) args,gbl k d pc (C.map (·.w)) args⟩
structure gOK (k:List Rat) (d pc:Nat):Prop where
 d6:d<=6
 kl:k.length<=100
 kr:∀ x∈k,rl x<=100
 srt:∀ i j,i<=j->j<k.length->k.getD i 0<=k.getD j 0
 p1:d<=pc
 p2:pc+d+1<k.length
 lt:k.getD pc 0<k.getD (pc+1) 0
theorem gOK.fr {k:List Rat} {d pc:Nat} (h:gOK k d pc) {r j:Nat} (h1:r<j) (h2:j<=d):k.getD (pc-d+j) 0<k.getD (pc+j-r) 0:=by
 have a1:=h.p1;have a2:=h.p2;have b1:=h.srt (pc-d+j) pc J J;have b2:=h.srt (pc+1) (pc+j-r) J J;have b3:=h.lt;grind
theorem gOK.kn {k:List Rat} {d pc:Nat} (h:gOK k d pc) {i:Nat} (hi:i<k.length):rl (k.getD i 0)<=100:=h.kr _ (getD_mem hi)
theorem gOK.fl {k:List Rat} {d pc:Nat} (h:gOK k d pc) {args:List Rat} (hA:∀ t∈args,rl t<=100) {r j:Nat} (h1:r<j) (h2:j<=d) (h3:r<args.length):rl (gF k d pc args r j)<=402:=by
 have a1:=h.p1;have a2:=h.p2;have b1:=h.kn (i:=pc-d+j) J;have b2:=h.kn (i:=pc+j-r) J;have b3:=hA _ (getD_mem h3);have c1:=rl_sub (args.getD r 0) (k.getD (pc-d+j) 0);have c2:=rl_sub (k.getD (pc+j-r) 0) (k.getD (pc-d+j) 0);have c3:=rl_div (args.getD r 0-k.getD (pc-d+j) 0) (k.getD (pc+j-r) 0-k.getD (pc-d+j) 0);unfold gF;omega
namespace H_c_KIns
theorem zSm {p q:Prop} (k:q) (e:p=q:=by simp only [sNF,ar,au,aq,fy0,fyc,x9,ti,yy,dR,dfq,Rat.add_zero,aA,aN,aK,aO,reduceIte,if_true,if_false,aX,LV.kill,kills];exact rfl):p:=e.mpr k
end H_c_KIns
open H_c_KIns in
theorem c_KIns (k:List Rat) (t:Rat) (i0:Nat) (h3:i0<k.length) (hl:k.length<=1000) (hr:∀ x∈k,rl x<=100000) (ht:rl t<=100000) (h1:∀ j,j<i0->k.getD j 0<=t) (h2:t<k.getD i0 0):CallP aa 151 [.list 3 (k.map ratL),ratL t] (.list 3 ((k.take i0++t :: k.drop i0).map ratL)):=by
 have gW:=pure_lst ratE 3 k;have hKc:=c_KcopiedO k J (fun x hx=>aw (hr x hx) ae);have hA:=c_RAdd t 0 (by rw [show rl 0=1 from rfl];omega);rw [fw] at hA;have dx:pures [ratL t]=true:=by simp [pures,ratE.pure]
 have kJ:pures (k.map ratL)=true:=pures_map ratE _;have hIn:=c_Ins k i0 t h3 hl;have dR:nameN 27 28 1=1000449:=rfl;have x9:(LV.ref 1 3 0 (k.length+1)).ren (nameN 27 28)=.ref 1000449 3 0 (k.length+1):=rfl;have ti:rens (nameN 27 28) [ratL t]=[ratL t]:=rens_pure _ _ dx;have yy:rens (nameN 27 28) ((k.take i0++t :: k.drop i0).map ratL)=(k.take i0++t :: k.drop i0).map ratL:=rens_pure _ _ (pures_map ratE _);have hlR:(k.take i0++t :: k.drop i0).length=k.length+1:=by rw [cZ,aQ,bZ,fJ];omega
 have xN:∀ i,i<k.length->rl (k.getD i 0)<=100000:=fun i hi=>hr _ (getD_mem hi);refine fnP Tryz.func151 ?_;refine zg13 ?_;refine lp1 (fun(i:Nat) L=>(mS L [(3,⟨3,[ratL t],true⟩)] [(5,nI64 i),(3,.eptr 3 3 0 0),(0,.list 3 (k.map ratL))])) (fun i=>i<=i0) (fun i=>i0-i) 0 (az _) ?_;rintro i L1 hi;refine zg2 ?_;refine wl_regD 13 ah ?_;refine zg5 ?_;refine st_pure ik (.move _) ?_;refine st_pure ik (.move _) ?_;refine st_pure ik ixA ?_;refine st_pure ik ldA ?_;refine st_pure ik ldA ?_
 try simp only [t1,dfq]
 refine st_callP ik (.cons im0 (.cons im0 .nil)) (c_RCmp (k.getD i 0) t (by have:=xN i J;omega)) ?_;refine st_pure ik (.bin rfl rfl rfl) ?_;refine st_pure rfl (.pickT rfl ((decide_eq_true rR))) ?_;refine zg2 ?_;refine wl_if rfl ?_ ?_<;>intro jU kg
 ·have hi2:i<i0:=by
   rcases cu i i0 with g | g
   ·exact g
   obtain rfl:i=i0:=J;have:=cmpR_pos.2 h2;omega
  refine zg5 ?_;refine cG ?_;refine zg4 ?_;exact cq
 obtain rfl:i0=i:=by
  rcases cu i i0 with g | g
  ·have:=cmpR_le.2 (h1 i g);omega
  omega
 refine zg6 ?_;refine wl_regDY rfl 7 ah ae ?_;simp only [List.take_succ_cons,List.take_zero];refine zg1 ?_;refine st_call1 [] rfl rfl (.cons (.pure gW) .nil) hKc (pures_map ratE _) rfl ?_;refine zg2 ?_;refine fu ?_;refine cp am2 (hA) ?_;refine zg1 ?_
 try refine zSm ?_
 refine st_semDT rfl (sem_callC (f:=222) (b:=27) (c:=1000353) (sz:=3) (csz:=3) (vals:=[ratL t]) (cvals:=k.map ratL) 28 rfl ae ae (by rw [rens_pure _ _ dx];rfl) (by rw [rens_pure _ _ kJ];rfl) (.cons (.ren (y:=.ref 1 3 0 k.length) ⟨by simp,by simp⟩) (.cons (.imm (.pure rfl)) (.cons (.ren (y:=.ref 0 3 0 1) ⟨by simp,by simp⟩) .nil))) (.tl (.tl (.ref ae))) hIn aj (fun kk jw=>hp_noneU (by intro x hx;simp only [gA,bh,bp,cN,or_false] at hx;unfold callName;omega))) ?_;simp only [addB,dR,x9,ti,yy]
 try refine zSm ?_
 simp only [List.drop_succ_cons,dY];refine zg4 ?_;exact ret1f [1000449] rfl rfl (imm_refm (l:=(k.take i0++t :: k.drop i0)) ratE rfl rfl hlR.symm)
namespace H_c_pieceG
theorem zSm {p q:Prop} (k:q) (e:p=q:=by simp only [sNF,ar,au,aq,dfq,aA,aN,aK,aO,reduceIte,if_true,if_false,aX,LV.kill,kills];exact rfl):p:=e.mpr k
end H_c_pieceG
open H_c_pieceG in
theorem c_pieceG (k:List Rat) (j r:Nat) (hl:k.length<=1000) (hr:∀ x∈k,rl x<=100000) (hj:j<=r) (bG:r+1<k.length) (ir:k.getD r 0<k.getD (r+1) 0) (hA:∀ i,j<=i->i<r->¬k.getD i 0<k.getD (i+1) 0):CallP aa 223 [.list 3 (k.map ratL),nI64 j] (nI64 r):=by
 have xN:∀ i,i<k.length->rl (k.getD i 0)<=100000:=fun i hi=>hr _ (getD_mem hi);refine fnP Tryz.func223 ?_;refine zg7 ?_;refine lp1 (fun(i:Nat) L=>(mS L [] [(1,nI64 i),(0,.list 3 (k.map ratL))])) (fun i=>j<=i/\i<=r) (fun i=>r-i) j ⟨an _,hj⟩ ?_;rintro i L1 ⟨cW,hi⟩;refine zg2 ?_;refine wl_regD 18 ah ?_;refine zg1 ?_;refine cG ?_;refine zg4 ?_;refine st_pure ik (.move _) ?_;refine st_pure ik (.move _) ?_;refine st_pure ik ixA ?_;refine st_pure ik ldA ?_;refine st_pure ik (.move _) ?_;refine st_pure ik (.move _) ?_;refine st_pure ik (.bin rfl rfl (add1N J)) ?_;refine st_pure ik ixA ?_;refine st_pure ik ldA ?_
 try simp only [t1,dfq]
 refine st_callP ik (.cons im0 (.cons im0 .nil)) (c_RCmp (k.getD i 0) (k.getD (i+1) 0) (by have:=xN i J;have:=xN (i+1) J;omega)) ?_;refine st_pure ik (.bin rfl rfl rfl) ?_;refine st_pure rfl (.pickT rfl ((decide_eq_true rR))) ?_;refine zg2 ?_;refine wl_if rfl ?_ ?_<;>intro uC sL
 ·have hi2:i<r:=by
   rcases cu i r with g | g
   ·exact g
   obtain rfl:i=r:=J;have:=cmpR_lt.2 ir;omega
  refine zg5 ?_;refine cG ?_;refine zg4 ?_;exact nx1 (i+1) ⟨J,J⟩
 obtain rfl:i=r:=by
  rcases cu i r with g | g
  ·exact absurd (cmpR_lt.1 J) (hA i cW g)
  omega
 refine zg12 ?_;exact dS
namespace H_c_BlosG
theorem zSm {p q:Prop} (k:q) (e:p=q:=by simp only [sNF,ar,au,aq,adx,iU,ratL_zero,rv,yr,ad8,mF,ewl,ewj,ewk,abK,dfq,Rat.add_zero,Nat.sub_self,List.drop_zero,List.take_zero,aR,aA,List.length_replicate,aS,aN,aK,aO,reduceIte,if_true,if_false,aX,LV.kill,kills];exact rfl):p:=e.mpr k
end H_c_BlosG
open H_c_BlosG in
theorem c_BlosG (k:List Rat) (d pc:Nat) (c args:List Rat) (R:Nat) (h:gOK k d pc) (hc:c.length=k.length-d-1) (mF:args.length=d) (cQ:1<=R) (hR:R<=10000000) (eD:∀ x∈c,rl x<=R) (hA:∀ t∈args,rl t<=100):CallOKM aa 269 ⟨3,c.map ratL,true⟩ [.list 3 (k.map ratL),nI64 d,.ref 0 3 0 c.length,nI64 pc,.list 3 (args.map ratL)] (.tup [ratL (gbl k d pc c args),iL 0]) ⟨3,c.map ratL,true⟩:=by
 have h9:=h.d6;have dZ:=h.kl;have dx:=h.p1;have kJ:=h.p2;have ag5:=h.lt;have wT:bfS 402 R 6<=10000000000:=by simp only [bfS];omega
 have iU:((c.drop (pc-d)).take (d+1)).length=d+1:=by rw [bZ,fJ];omega
 have hvR:∀ x∈((c.drop (pc-d)).take (d+1)),rl x<=R:=fun x hx=>eD x (oH (oM hx));have hFl:∀ r i,r<d->r<i->i<((c.drop (pc-d)).take (d+1)).length->rl ((gF k d pc args) r i)<=402:=fun r i g1 g2 g3=>h.fl hA g2 J J;have hBR:∀ r,r<=d->∀ x∈(gfi (gF k d pc args) ((c.drop (pc-d)).take (d+1)) r),rl x<=10000000000:=fun r hr x hx=>aw (gfi_rl hFl cQ hvR r hr x hx) (aw (bfS_mono cQ (show r<=6 by omega)) wT);have hG:∀ i,i<k.length->rl (k.getD i 0)<=100:=fun i hi=>h.kn hi;have c1:¬cmpR (k.getD pc 0) (k.getD (pc+1) 0)>=0:=fun e=>by have:=cmpR_ge.1 e;grind
 have eH:=hG pc J;have lh:=hG (pc+1) J;have lH:=pure_lst ratE 3 args;have gW:=pure_lst ratE 3 k;have ahO:=getD_rl ae (hBR d (an _)) d;have hAd:=c_RAdd ((gfi (gF k d pc args) ((c.drop (pc-d)).take (d+1)) d).getD d 0) 0 (by have:rl 0=1:=rfl;omega);rw [fw] at hAd;have tL:(((c.drop (pc-d)).take (d+1)).map ratL).length=d+1:=by rw [aA,iU]
 have rv:(ai (d+1) (ratL 0)).drop (d+1)=[]:=ep aj;have yr:((ai (d+1) (0:Rat)).map ratL).drop (d+1)=[]:=ep aj;refine fnM Tryz.func269 ?_;have adx:True:=trivial;have ad8:True:=trivial;have ewl:True:=trivial;have ewj:True:=trivial;have ewk:True:=trivial;have abK:True:=trivial;refine zg14 ?_;refine cp am2 (c_KPoles k d J J) ?_;refine zg2 ?_;refine st_pure xS (.move _) ?_;refine st_pure xS lnA ?_;refine st_pure xS (.move _) ?_;refine st_pure xS (.bin rfl rfl rfl) ?_;refine st_pure rfl (.pickF rfl ((bne_eq_false_iff_eq.2 rR))) ?_;refine zg3 ?_;refine wl_condY (b:=_) rfl (bne_eq_false_iff_eq.2 (by first | omega | (simp only [aA,mF];omega))) ?_;refine zg1 ?_;refine wl_regD 23 ah ?_;refine zg4 ?_;refine st_pure ij (.move _) ?_;refine st_pure ij (.move _) ?_;refine st_pure ij lnA ?_;refine xj ?_;refine zg1 ?_;refine st_pure ij (.move _) ?_;refine st_pure ij (.move _) ?_;refine st_pure ij ixA ?_;refine st_pure ij ldA ?_;refine st_pure ij (.move _) ?_;refine st_pure ij (.move _) ?_;refine st_pure ij (.bin rfl rfl (add1N J)) ?_;refine st_pure ij ixA ?_;refine st_pure ij ldA ?_
 try simp only [t1,dfq]
 refine st_callP ij (.cons im0 (.cons im0 .nil)) (c_RCmp (k.getD pc 0) (k.getD (pc+1) 0) J) ?_;refine xj ?_;refine zg3 ?_;refine wl_condY (b:=_) rfl (decide_eq_false c1) ?_;refine zg6 ?_;refine cG ?_;refine st_alloc rfl rfl (.mkE (n:=d+1) (m:=d+1) ml ml om om om) ?_;refine zg9 ?_;refine st_pure rfl (.bin rfl rfl (subNN (a:=pc) (b:=d) (c:=pc-d) J J)) ?_;refine st_pure rfl (.sliceR (a:=pc-d) (h:=c.length) rfl aV T32 (fun y hy=>by cases hy;exact⟨_,rfl⟩) (fun h=>by cases h) (fun y hy=>by cases hy) (fun _=>rfl) om om om) ?_
 try refine zSm ?_
 refine st_store rfl (.cpyG (b:=58) (off:=0) (sz:=3) (n1:=d+1) (c:=0) (off2:=pc-d) (n2:=c.length-(pc-d)) (news:=(((c.drop (pc-d)).take (d+1)).map ratL)) rfl rfl rfl rfl (az _) aV aV T32 rfl rfl rfl (by rw [tL];show _=min _ _;omega) (by rw [tL];omega) (by rw [tL,aA];omega) (by rw [tL,<-sD,<-lY])) ?_;refine zg11 ?_;refine lp1 (fun(r:Nat) L=>(mS L [(0,⟨3,c.map ratL,true⟩),(10,⟨3,[ratL 0],true⟩),(58,⟨3,(gfi (gF k d pc args) ((c.drop (pc-d)).take (d+1)) r).map ratL,true⟩)] [(68,nI64 r),(67,nI64 d),(66,.list 3 (args.map ratL)),(12,.ref 58 3 0 (d+1)),(10,.eptr 10 3 0 0),(3,nI64 pc),(1,nI64 d),(0,.list 3 (k.map ratL))])) (fun r=>r<=d) (fun r=>d-r) 0 (az _) ?_;rintro r L1 hr;refine zg6 ?_;refine wl_if rfl ?_ ?_<;>intro ae2 h69
 ·have ir:r<d:=J;have hrt:=hA _ (getD_mem (p:=args) (i:=r) J);have gQ:(gfi (gF k d pc args) ((c.drop (pc-d)).take (d+1)) r).length=d+1:=by rw [gfi_len,iU]
  have abK:gsj ((gF k d pc args) r) (gfi (gF k d pc args) ((c.drop (pc-d)).take (d+1)) r) d=(gfi (gF k d pc args) ((c.drop (pc-d)).take (d+1)) r):=gsj_top _ _ _ J;refine zg21 ?_;refine lp1 (fun(j:Nat) L=>(mS L [(0,⟨3,c.map ratL,true⟩),(10,⟨3,[ratL 0],true⟩),(58,⟨3,(gsj ((gF k d pc args) r) (gfi (gF k d pc args) ((c.drop (pc-d)).take (d+1)) r) j).map ratL,true⟩),(14,⟨3,[ratL (args.getD r 0)],true⟩)] [(68,nI64 r),(67,nI64 d),(66,.list 3 (args.map ratL)),(15,nI64 j),(14,.eptr 14 3 0 0),(13,nI64 r),(12,.ref 58 3 0 (d+1)),(10,.eptr 10 3 0 0),(3,nI64 pc),(1,nI64 d),(0,.list 3 (k.map ratL))])) (fun j=>r<=j/\j<=d) (fun j=>j) d ⟨J,an _⟩ ?_;rintro j L2 ⟨hj1,bo⟩;refine zg8 ?_;refine wl_if rfl ?_ ?_<;>intro agr h76
  ·have tp:r<j:=J;have ewl:(gsj ((gF k d pc args) r) (gfi (gF k d pc args) ((c.drop (pc-d)).take (d+1)) r) j).length=d+1:=by rw [gsj_len,gQ]
   have ewj:(gsj ((gF k d pc args) r) (gfi (gF k d pc args) ((c.drop (pc-d)).take (d+1)) r) j).getD j 0=(gfi (gF k d pc args) ((c.drop (pc-d)).take (d+1)) r).getD j 0:=by rw [gsj_get _ _ _ _ J,if_neg J]
   have ewk:(gsj ((gF k d pc args) r) (gfi (gF k d pc args) ((c.drop (pc-d)).take (d+1)) r) j).getD (j-1) 0=(gfi (gF k d pc args) ((c.drop (pc-d)).take (d+1)) r).getD (j-1) 0:=by rw [gsj_get _ _ _ _ J,if_neg J]
   have kI:=getD_rl ae (hBR r J) j;have vZ:=getD_rl ae (hBR r J) (j-1);have hfq:rl ((gF k d pc args) r j)<=402:=h.fl hA tp J J;have bj:=rl_sub ((gfi (gF k d pc args) ((c.drop (pc-d)).take (d+1)) r).getD j 0) ((gfi (gF k d pc args) ((c.drop (pc-d)).take (d+1)) r).getD (j-1) 0);have hmf:=rl_mul ((gF k d pc args) r j) ((gfi (gF k d pc args) ((c.drop (pc-d)).take (d+1)) r).getD j 0-(gfi (gF k d pc args) ((c.drop (pc-d)).take (d+1)) r).getD (j-1) 0);have ad8:=gsj_set ((gF k d pc args) r) (gfi (gF k d pc args) ((c.drop (pc-d)).take (d+1)) r) j J J;have fR:=hG (pc-d+j) J;have dk:=hG (pc+j-r) J;have aY:CallP aa 283 [ratL (k.getD (pc-d+j) 0),ratL (k.getD (pc+j-r) 0),ratL (args.getD r 0)] (ratL ((gF k d pc args) r j)):=c_frac _ _ _ J (h.fr tp J);refine zg8 ?_;refine st_pure rfl (.bin rfl rfl (subNN (a:=pc) (b:=d) (c:=pc-d) J J)) ?_;refine zg1 ?_;refine st_pure rfl (.bin rfl rfl (add64N (a:=pc-d) (b:=j) J)) ?_;refine zg4 ?_;refine wl_regD 15 ah ?_;refine zg7 ?_;refine st_pure rfl (.bin rfl rfl (add64N (a:=pc-d+j) (b:=d) J)) ?_;refine zg1 ?_;refine st_pure rfl (.bin rfl rfl (subNN (a:=pc-d+j+d) (b:=r) (c:=pc+j-r) J J)) ?_;refine zg3 ?_
   try simp only [t1,dfq]
   refine cp am3 (aY) ?_;refine zg4 ?_;refine wl_regD 21 ah ?_;refine zg4 ?_;refine fG ?_;refine zg9 ?_;refine fG ?_;refine zg2 ?_;refine zSm ?_;refine cp am2 (c_RSub ((gfi (gF k d pc args) ((c.drop (pc-d)).take (d+1)) r).getD j 0) ((gfi (gF k d pc args) ((c.drop (pc-d)).take (d+1)) r).getD (j-1) 0) J) ?_;refine cp am2 (c_RMul ((gF k d pc args) r j) ((gfi (gF k d pc args) ((c.drop (pc-d)).take (d+1)) r).getD j 0-(gfi (gF k d pc args) ((c.drop (pc-d)).take (d+1)) r).getD (j-1) 0) J) ?_;refine cp am2 (c_RAdd ((gfi (gF k d pc args) ((c.drop (pc-d)).take (d+1)) r).getD (j-1) 0) ((gF k d pc args) r j*((gfi (gF k d pc args) ((c.drop (pc-d)).take (d+1)) r).getD j 0-(gfi (gF k d pc args) ((c.drop (pc-d)).take (d+1)) r).getD (j-1) 0)) J) ?_;refine zg5 ?_;refine wl_regW (Weak.kill _ 17) ?_;refine zg1 ?_;refine fG ?_;refine zg3 ?_;exact nx1 (j-1) ⟨J,J⟩
  obtain rfl:r=j:=J;refine zg6 ?_;refine wl_regW (Weak.kill _ 14) ?_;refine bq ?_;exact nx1 (r+1) J
 obtain rfl:d=r:=J;have adx:(gfi (gF k d pc args) ((c.drop (pc-d)).take (d+1)) d).length=d+1:=by rw [gfi_len,iU]
 refine zg11 ?_;refine zSm ?_;refine fu ?_;refine cp am2 (hAd) ?_;refine zg5 ?_;exact retMCT rfl rfl (ratE.csize _) (ratL_all _) T32 (.imm (.pure (ratE.pure _))) rfl (.imm (.pure rfl)) rfl rfl (pures_map ratE _)
namespace H_c_polG
theorem zSm {p q:Prop} (k:q) (e:p=q:=by simp only [sNF,ar,au,aq,ratL_zero,q4L,ig,u9,o6,oq,dfq,List.drop_zero,List.take_zero,aR,aA,List.length_replicate,q4L_kill,kills_map q4E,aN,aK,aO,reduceIte,if_true,if_false,aX,LV.kill,kills];exact rfl):p:=e.mpr k
end H_c_polG
open H_c_polG in
theorem c_polG (k:List Rat) (d pc:Nat) (C:List Q4) (args:List Rat) (R:Nat) (h:gOK k d pc) (hC:C.length=k.length-d-1) (mF:args.length=d) (cQ:1<=R) (hR:R<=10000000) (eD:∀ q∈C,bd4 R q) (hA:∀ t∈args,rl t<=100):CallP aa 225 [.agg [nI64 d,.list 3 (k.map ratL),.list 12 (C.map q4L)],nI64 pc,.list 3 (args.map ratL)] (q4L (gpol k d pc C args)):=by
 have dx:=h.p1;have kJ:=h.p2;have dZ:=h.kl;have yh:0<C.length:=J;have hC9:C.length<=100:=J;have v5:LV.pure (.agg [nI64 d,.list 3 (k.map ratL),.list 12 (C.map q4L)])=true:=by simp [LV.pure,pures,pures_map ratE,pures_map q4E]
 have gW:=pure_lst ratE 3 k;have lH:=pure_lst ratE 3 args;have dH:∀ x∈(C.map (·.x)),rl x<=R:=fun x hx=>by
  obtain⟨q,hq,rfl⟩:=bS.1 hx;exact(eD q hq).1
 have ab3:=c_BlosG k d pc (C.map (·.x)) args R h (by rw [aA,hC]) mF cQ hR dH hA;rw [show (C.map (·.x)).length=C.length from aA _] at ab3;have ja:∀ x∈(C.map (·.y)),rl x<=R:=fun x hx=>by
  obtain⟨q,hq,rfl⟩:=bS.1 hx;exact(eD q hq).2.1
 have adl:=c_BlosG k d pc (C.map (·.y)) args R h (by rw [aA,hC]) mF cQ hR ja hA;rw [show (C.map (·.y)).length=C.length from aA _] at adl;have cL:∀ x∈(C.map (·.z)),rl x<=R:=fun x hx=>by
  obtain⟨q,hq,rfl⟩:=bS.1 hx;exact(eD q hq).2.2.1
 have zi:=c_BlosG k d pc (C.map (·.z)) args R h (by rw [aA,hC]) mF cQ hR cL hA;rw [show (C.map (·.z)).length=C.length from aA _] at zi;have zC:∀ x∈(C.map (·.w)),rl x<=R:=fun x hx=>by
  obtain⟨q,hq,rfl⟩:=bS.1 hx;exact(eD q hq).2.2.2
 have acu:=c_BlosG k d pc (C.map (·.w)) args R h (by rw [aA,hC]) mF cQ hR zC hA;rw [show (C.map (·.w)).length=C.length from aA _] at acu;refine fnP Tryz.func225 (ht:=(fun g=>LV.ren_pure g _ (q4E.pure _))) ?_;have ig:True:=trivial;have u9:True:=trivial;have o6:True:=trivial;have oq:True:=trivial;refine zg16 ?_;refine st_alloc rfl rfl (.mkE (n:=C.length) (m:=C.length) ml ml om om om) ?_;refine zg10 ?_;refine fq ?_;refine zg20 ?_;refine lp1 (fun(i:Nat) L=>(mS L [(3,⟨3,[.agg [nI64 d,.list 3 (k.map ratL),.list 12 (C.map q4L)]],true⟩),(6,⟨12,[.agg [ratL 0,ratL 0,ratL 0,ratL 0]],true⟩),(7,⟨12,[.agg [ratL 0,ratL 0,ratL 0,ratL 0]],true⟩),(15,⟨3,((C.map (·.x)).take i++(ai C.length (0:Rat)).drop i).map ratL,true⟩)] [(22,nI64 i),(21,nI64 C.length),(20,.list 12 (C.map q4L)),(16,nI64 0),(9,nI64 0),(8,.ref 15 3 0 C.length),(7,.eptr 7 12 0 0),(6,.eptr 6 12 0 0),(3,.eptr 3 3 0 0),(2,.list 3 (args.map ratL)),(1,nI64 pc)])) (fun i=>i<=C.length) (fun i=>C.length-i) 0 (az _) ?_;rintro i L2 hi;refine zg6 ?_;refine wl_if rfl ?_ ?_<;>intro lC kt
 ·have hi2:i<C.length:=J;have oq:=getD_mapQ (C:=C) (i:=i) J (·.x);have u9:((C.map (·.x)).take i++(ai C.length (0:Rat)).drop i).set i ((C.getD i default).x)=(C.map (·.x)).take (i+1)++(ai C.length (0:Rat)).drop (i+1):=by
   rw [<-oq];exact cp_set aj al
  have ig:((C.map (·.x)).take i++(ai C.length (0:Rat)).drop i).length=C.length:=by rw [cp_len aj al];simp
  refine zg25 ?_;refine wl_regW (Weak.kill _ 11) ?_;refine bq ?_;exact cq
 obtain rfl:i=C.length:=J;have o6:(C.map (·.x)).take C.length++(ai C.length (0:Rat)).drop C.length=(C.map (·.x)):=cp_end aj aj
 try simp only [o6]
 refine zg14 ?_;refine st_callMt 15 rfl rfl rfl (pures_map ratE _) (.cons (.imm (.pure gW)) (.cons (.imm (.pure rfl)) (.cons .ref (.cons (.imm (.pure rfl)) (.cons (.imm (.pure lH)) .nil))))) (.tl (.tl (.ref yh))) ab3 rfl (pures_map ratE _) (tame2 (ratE.pure _) rfl) ?_;refine zg13 ?_;refine fq ?_;refine zg20 ?_;refine lp1 (fun(i:Nat) L=>(mS L [(3,⟨3,[.agg [nI64 d,.list 3 (k.map ratL),.list 12 (C.map q4L)]],true⟩),(6,⟨12,[.agg [ratL 0,ratL 0,ratL 0,ratL 0]],true⟩),(7,⟨12,[.agg [ratL (gbl k d pc (C.map (·.x)) args),ratL 0,ratL 0,ratL 0]],true⟩),(15,⟨3,((C.map (·.y)).take i++(C.map (·.x)).drop i).map ratL,true⟩)] [(22,nI64 i),(21,nI64 C.length),(20,.list 12 (C.map q4L)),(16,nI64 1),(9,nI64 1),(8,.ref 15 3 0 C.length),(7,.eptr 7 12 0 0),(6,.eptr 6 12 0 0),(3,.eptr 3 3 0 0),(2,.list 3 (args.map ratL)),(1,nI64 pc)])) (fun i=>i<=C.length) (fun i=>C.length-i) 0 (az _) ?_;rintro i L2 hi;refine zg6 ?_;refine wl_if rfl ?_ ?_<;>intro lC kt
 ·have hi2:i<C.length:=J;have oq:=getD_mapQ (C:=C) (i:=i) J (·.y);have u9:((C.map (·.y)).take i++(C.map (·.x)).drop i).set i ((C.getD i default).y)=(C.map (·.y)).take (i+1)++(C.map (·.x)).drop (i+1):=by
   rw [<-oq];exact cp_set aj al
  have ig:((C.map (·.y)).take i++(C.map (·.x)).drop i).length=C.length:=by rw [cp_len aj al];simp
  refine zg25 ?_;refine wl_regW (Weak.kill _ 11) ?_;refine bq ?_;exact cq
 obtain rfl:i=C.length:=J;have o6:(C.map (·.y)).take C.length++(C.map (·.x)).drop C.length=(C.map (·.y)):=cp_end aj aj
 try simp only [o6]
 refine zg14 ?_;refine st_callMt 15 rfl rfl rfl (pures_map ratE _) (.cons (.imm (.pure gW)) (.cons (.imm (.pure rfl)) (.cons .ref (.cons (.imm (.pure rfl)) (.cons (.imm (.pure lH)) .nil))))) (.tl (.tl (.ref yh))) adl rfl (pures_map ratE _) (tame2 (ratE.pure _) rfl) ?_;refine zg13 ?_;refine fq ?_;refine zg20 ?_;refine lp1 (fun(i:Nat) L=>(mS L [(3,⟨3,[.agg [nI64 d,.list 3 (k.map ratL),.list 12 (C.map q4L)]],true⟩),(6,⟨12,[.agg [ratL 0,ratL 0,ratL 0,ratL 0]],true⟩),(7,⟨12,[.agg [ratL (gbl k d pc (C.map (·.x)) args),ratL (gbl k d pc (C.map (·.y)) args),ratL 0,ratL 0]],true⟩),(15,⟨3,((C.map (·.z)).take i++(C.map (·.y)).drop i).map ratL,true⟩)] [(22,nI64 i),(21,nI64 C.length),(20,.list 12 (C.map q4L)),(16,nI64 2),(9,nI64 2),(8,.ref 15 3 0 C.length),(7,.eptr 7 12 0 0),(6,.eptr 6 12 0 0),(3,.eptr 3 3 0 0),(2,.list 3 (args.map ratL)),(1,nI64 pc)])) (fun i=>i<=C.length) (fun i=>C.length-i) 0 (az _) ?_;rintro i L2 hi;refine zg6 ?_;refine wl_if rfl ?_ ?_<;>intro lC kt
 ·have hi2:i<C.length:=J;have oq:=getD_mapQ (C:=C) (i:=i) J (·.z);have u9:((C.map (·.z)).take i++(C.map (·.y)).drop i).set i ((C.getD i default).z)=(C.map (·.z)).take (i+1)++(C.map (·.y)).drop (i+1):=by
   rw [<-oq];exact cp_set aj al
  have ig:((C.map (·.z)).take i++(C.map (·.y)).drop i).length=C.length:=by rw [cp_len aj al];simp
  refine zg25 ?_;refine wl_regW (Weak.kill _ 11) ?_;refine bq ?_;exact cq
 obtain rfl:i=C.length:=J;have o6:(C.map (·.z)).take C.length++(C.map (·.y)).drop C.length=(C.map (·.z)):=cp_end aj aj
 try simp only [o6]
 refine zg14 ?_;refine st_callMt 15 rfl rfl rfl (pures_map ratE _) (.cons (.imm (.pure gW)) (.cons (.imm (.pure rfl)) (.cons .ref (.cons (.imm (.pure rfl)) (.cons (.imm (.pure lH)) .nil))))) (.tl (.tl (.ref yh))) zi rfl (pures_map ratE _) (tame2 (ratE.pure _) rfl) ?_;refine zg13 ?_;refine fq ?_;refine zg20 ?_;refine lp1 (fun(i:Nat) L=>(mS L [(3,⟨3,[.agg [nI64 d,.list 3 (k.map ratL),.list 12 (C.map q4L)]],true⟩),(6,⟨12,[.agg [ratL 0,ratL 0,ratL 0,ratL 0]],true⟩),(7,⟨12,[.agg [ratL (gbl k d pc (C.map (·.x)) args),ratL (gbl k d pc (C.map (·.y)) args),ratL (gbl k d pc (C.map (·.z)) args),ratL 0]],true⟩),(15,⟨3,((C.map (·.w)).take i++(C.map (·.z)).drop i).map ratL,true⟩)] [(22,nI64 i),(21,nI64 C.length),(20,.list 12 (C.map q4L)),(16,nI64 3),(9,nI64 3),(8,.ref 15 3 0 C.length),(7,.eptr 7 12 0 0),(6,.eptr 6 12 0 0),(3,.eptr 3 3 0 0),(2,.list 3 (args.map ratL)),(1,nI64 pc)])) (fun i=>i<=C.length) (fun i=>C.length-i) 0 (az _) ?_;rintro i L2 hi;refine zg6 ?_;refine wl_if rfl ?_ ?_<;>intro lC kt
 ·have hi2:i<C.length:=J;have oq:=getD_mapQ (C:=C) (i:=i) J (·.w);have u9:((C.map (·.w)).take i++(C.map (·.z)).drop i).set i ((C.getD i default).w)=(C.map (·.w)).take (i+1)++(C.map (·.z)).drop (i+1):=by
   rw [<-oq];exact cp_set aj al
  have ig:((C.map (·.w)).take i++(C.map (·.z)).drop i).length=C.length:=by rw [cp_len aj al];simp
  refine zg25 ?_;refine wl_regW (Weak.kill _ 11) ?_;refine bq ?_;exact cq
 obtain rfl:i=C.length:=J;have o6:(C.map (·.w)).take C.length++(C.map (·.z)).drop C.length=(C.map (·.w)):=cp_end aj aj
 try simp only [o6]
 refine zg14 ?_;refine st_callMt 15 rfl rfl rfl (pures_map ratE _) (.cons (.imm (.pure gW)) (.cons (.imm (.pure rfl)) (.cons .ref (.cons (.imm (.pure rfl)) (.cons (.imm (.pure lH)) .nil))))) (.tl (.tl (.ref yh))) acu rfl (pures_map ratE _) (tame2 (ratE.pure _) rfl) ?_;refine zg13 ?_;refine km ?_;refine zg12 ?_;exact retC [] rfl rfl rfl cs (at_all cs rfl) T191 (.pure (q4E.pure (gpol k d pc C args)))
theorem range_snoc {α:Type} (f:Nat->α) (j:Nat):(b9 j).map f++[f j]=(b9 (j+1)).map f:=by rw [List.range_succ,su];rfl
namespace H_c_OverG
theorem zSm {p q:Prop} (k:q) (e:p=q:=by simp only [sNF,ar,au,aq,dJ,a9,ejd,dfq,aA,List.length_range,bA,aQ,bc,aR,bh,aZ,aS,q4L_kill,kills_map q4E,aN,aK,aO,reduceIte,if_true,if_false,aX,LV.kill,kills];exact rfl):p:=e.mpr k
end H_c_OverG
open H_c_OverG in
theorem c_OverG (k w:List Rat) (d N:Nat) (C:List Q4) (R:Nat) (I A:Nat->Nat) (zH:0<N) (hw:w.length=N+d+1) (cS:w.length<=100) (rD:∀ x∈w,rl x<=100) (hC:C.length=k.length-d-1) (cQ:1<=R) (hR:R<=10000000) (eD:∀ q∈C,bd4 R q) (hIl:∀ j,j<N->I j<w.length) (hG:∀ j,j<N->gOK k d (A j)) (hPc:∀ j,j<N->CallP aa 223 [.list 3 (w.map ratL),nI64 j] (nI64 (I j))) (hIv:∀ j,j<N->CallP aa 224 [.list 3 (k.map ratL),nI64 d,ratL (w.getD (I j) 0)] (.tup [nI64 (A j),iL 0])):CallP aa 152 [.agg [nI64 d,.list 3 (k.map ratL),.list 12 (C.map q4L)],.list 3 (w.map ratL)] (.agg [nI64 d,.list 3 (w.map ratL),.list 12 (((b9 N).map fun j=>gpol k d (A j) C ((w.drop (j+1)).take d)).map q4L)]):=by
 have v5:LV.pure (.agg [nI64 d,.list 3 (k.map ratL),.list 12 (C.map q4L)])=true:=by simp [LV.pure,pures,pures_map ratE,pures_map q4E]
 have gW:=pure_lst ratE 3 w;have hN9:N<=100:=J;have hd9:d<=100:=J;have hKP:=c_KPoles w d J J;rw [show w.length-d-1=N by omega] at hKP;refine fnP Tryz.func152 (ht:=(fun g=>LV.ren_pure g _ (by simp [LV.pure,pures,pures_map ratE,pures_map q4E,-vx]))) ?_;have dJ:True:=trivial;have a9:True:=trivial;have ejd:True:=trivial;refine zg22 ?_;refine cp am2 (hKP) ?_;refine zg4 ?_;refine wl_weak ((Weak.cell 5 rfl (fun Z μ w cs h=>rep_net 51 12 _ _ Z μ w cs h)).trans (Weak.newB _ 51 12 rfl)) ?_;refine lp1 (fun(j:Nat) L=>(mS L [(2,⟨3,[.agg [nI64 d,.list 3 (k.map ratL),.list 12 (C.map q4L)]],true⟩),(4,⟨3,[.agg [.v (.int .i64 0),.v (.slice none 0 0),.v (.slice none 0 0)]],true⟩),(5,⟨3,[.agg [nI64 d,.list 3 (w.map ratL),.ref 51 12 0 j]],true⟩),(51,⟨12,((b9 j).map fun j=>gpol k d (A j) C ((w.drop (j+1)).take d)).map q4L,true⟩)] [(18,nI64 j),(17,nI64 N),(5,.eptr 5 3 0 0),(4,.eptr 4 3 0 0),(2,.eptr 2 3 0 0),(1,.list 3 (w.map ratL))])) (fun j=>j<=N) (fun j=>N-j) 0 (az _) ?_;rintro j L1 hj;refine zg6 ?_;refine wl_if rfl ?_ ?_<;>intro wP xU
 ·have bo:j<N:=J;have dJ:((b9 j).map fun j=>gpol k d (A j) C ((w.drop (j+1)).take d))++[(gpol k d (A j) C ((w.drop (j+1)).take d))]=((b9 (j+1)).map fun j=>gpol k d (A j) C ((w.drop (j+1)).take d)):=range_snoc (fun j=>(gpol k d (A j) C ((w.drop (j+1)).take d))) j;have a9:(((b9 j).map fun j=>gpol k d (A j) C ((w.drop (j+1)).take d)).map q4L).take j=((b9 j).map fun j=>gpol k d (A j) C ((w.drop (j+1)).take d)).map q4L:=aH aj;have ejd:(w.take (j+d+1)).drop (j+1)=(w.drop (j+1)).take d:=by
   rw [List.drop_take];congr 1;omega
  have agy:=hPc j bo;have agl:=hIv j bo;have ahB:=hIl j bo;have hPo:=c_polG k d (A j) C ((w.drop (j+1)).take d) R (hG j bo) hC (by rw [bZ,fJ];omega) cQ hR eD (fun t ht=>rD t (oH (oM ht)));refine zg14 ?_;refine cp am2 (agy) ?_;refine zg4 ?_;refine wl_regD 14 ah ?_;refine zg8 ?_
  try simp only [t1,dfq]
  refine cp am3 (agl) ?_;refine zg7 ?_;refine wl_regD 15 ah ?_;refine zg6 ?_;refine bq ?_;refine st_pure rfl (.bin rfl rfl (add64N (a:=j) (b:=d) J)) ?_;refine cG ?_;refine st_pure rfl (.sliceLb (a:=j+1) (h:=j+d+1) ratE rfl aV T32 rfl rfl om om) ?_;refine zSm ?_;refine cp am3 (hPo) ?_;refine zg1 ?_;refine st_store rfl (.appX (d:=51) (news:=[q4L (gpol k d (A j) C ((w.drop (j+1)).take d))]) rfl rfl rfl rfl aj (.inl rfl) ae qE qE Z191 T191 cs B191 (.inl ⟨50,0,_,rfl,by decide,rfl,rfl,by simp,rfl,by simp [pures,q4E.pure]⟩) al al ae) ?_;refine zg5 ?_;refine wl_regW (Weak.kill _ 50) ?_;refine bq ?_;exact mH
 obtain rfl:j=N:=J;refine zg12 ?_;exact retC [51] rfl rfl rfl cs (at_all cs rfl) T155 (.agg (.cons (.pure rfl) (.cons (.pure gW) (.cons (imm_refm (l:=((b9 j).map fun j=>gpol k d (A j) C ((w.drop (j+1)).take d))) q4E rfl rfl aj) .nil))))
namespace H_c_SpCutG
theorem zSm {p q:Prop} (k:q) (e:p=q:=by simp only [sNF,ar,au,aq,hK0,hK1,hK2,gY,hiy,zz,ebl,eap,ebp,yF,hmj,List.replicate_zero,Nat.add_zero,dfq,List.getD_cons_zero,List.getD_cons_succ,aA,List.length_replicate,bA,aQ,bc,aR,bh,aZ,aS,q4L_kill,kills_map q4E,aN,aK,aO,reduceIte,if_true,if_false,aX,LV.kill,kills];exact rfl):p:=e.mpr k
end H_c_SpCutG
open H_c_SpCutG in
theorem c_SpCutG (k w:List Rat) (d:Nat) (C C2:List Q4) (a b:Rat) (ea eb:Bool) (na nb:Nat) (KA KB:Nat->List Rat) (f1 l2:Nat) (hd:d<=6) (ha:rl a<=100) (hb:rl b<=100) (h1k:0<k.length) (dZ:k.length<=100) (lA:∀ x∈k,rl x<=100) (hK0:KA 0=k) (hK1:KA na=KB 0) (hK2:KB nb=w) (hBl:0<(KB 0).length) (zi:(KB 0).length<=100) (hBr:∀ x∈KB 0,rl x<=100) (cS:w.length<=100) (xz:(decide (a=k.getD 0 0) || decide (a=k.getD (k.length-1) 0))=ea) (xA:(decide (b=(KB 0).getD 0 0) || decide (b=(KB 0).getD ((KB 0).length-1) 0))=eb) (ry:na<=d) (vY:nb<=d) (jn:ea=true->na=0) (hzb:eb=true->nb=0) (zV:ea=false->∀ n,n<=na->CallP aa 150 [.list 3 ((KA n).map ratL),ratL a] (nI64 (d-(na-n)))) (yK:eb=false->∀ n,n<=nb->CallP aa 150 [.list 3 ((KB n).map ratL),ratL b] (nI64 (d-(nb-n)))) (hIA:∀ n,n<na->CallP aa 151 [.list 3 ((KA n).map ratL),ratL a] (.list 3 ((KA (n+1)).map ratL))) (z7:∀ n,n<nb->CallP aa 151 [.list 3 ((KB n).map ratL),ratL b] (.list 3 ((KB (n+1)).map ratL))) (hO:CallP aa 152 [.agg [nI64 d,.list 3 (k.map ratL),.list 12 (C.map q4L)],.list 3 (w.map ratL)] (.agg [nI64 d,.list 3 (w.map ratL),.list 12 (C2.map q4L)])) (mR:CallP aa 153 [.list 3 (w.map ratL),.clo 154 [.boxp (ratL a)]] (nI64 f1)) (sr:CallP aa 153 [.list 3 (w.map ratL),.clo 155 [.boxp (ratL b)]] (nI64 l2)) (nA:d+1<=f1) (gD:f1<=l2) (gI:l2<=C2.length) (ky:C2.length<=w.length):CallP aa 84 [.agg [nI64 d,.list 3 (k.map ratL),.list 12 (C.map q4L)],ratL a,ratL b] (.agg [nI64 d,.list 3 ((ai (d+1) a++((w.take l2).drop f1)++ai (d+1) b).map ratL),.list 12 (((C2.take l2).drop (f1-1-d)).map q4L)]):=by
 have v5:LV.pure (.agg [nI64 d,.list 3 (k.map ratL),.list 12 (C.map q4L)])=true:=by simp [LV.pure,pures,pures_map ratE,pures_map q4E]
 have tQ:=pure_lst ratE 3 w;have gY:((k.length:Int)-1).toNat=k.length-1:=J;have hiy:(((KB 0).length:Int)-1).toNat=(KB 0).length-1:=J;have fO:=lA _ (getD_mem (p:=k) (i:=0) J);have eH:=lA _ (getD_mem (p:=k) (i:=k.length-1) J);have lh:=hBr _ (getD_mem (p:=KB 0) (i:=0) J);have l7:=hBr _ (getD_mem (p:=KB 0) (i:=(KB 0).length-1) J);have hmj:(ai (d+1) a).map ratL++((w.take l2).drop f1).map ratL=(ai (d+1) a++((w.take l2).drop f1)).map ratL:=su.symm;have yF:((w.take l2).drop f1).length=l2-f1:=by rw [fJ,bZ];omega
 have afD:=c_RSame a (k.getD 0 0) J;have afO:=c_RSame a (k.getD (k.length-1) 0) J;have aeG:=c_RSame b ((KB 0).getD 0 0) J;have ags:=c_RSame b ((KB 0).getD ((KB 0).length-1) 0) J;refine fnP Tryz.func84 (ht:=(fun g=>LV.ren_pure g _ (by simp [LV.pure,pures,pures_map ratE,pures_map q4E,-su,-sD,-lY]))) ?_;have zz:True:=trivial;have ebl:True:=trivial;have eap:True:=trivial;have ebp:True:=trivial;refine zg25 ?_;refine fq ?_;refine zg12 ?_;refine wl_cut (fun L=>∃  (L1:St),(True)/\L=(mS L1 [(3,⟨3,[.agg [nI64 d,.list 3 (k.map ratL),.list 12 (C.map q4L)]],true⟩),(4,⟨3,[ratL a],true⟩),(5,⟨3,[ratL b],true⟩),(6,⟨3,[.agg [.v (.int .i64 0),.v (.slice none 0 0),.v (.slice none 0 0)]],true⟩),(9,⟨3,[ratL a],true⟩)] [(20,nI64 0),(19,.agg [ratL a,ratL b]),(10,bL ea),(9,.eptr 9 3 0 0),(7,.list 3 (k.map ratL)),(6,.eptr 6 3 0 0),(5,.eptr 5 3 0 0),(4,.eptr 4 3 0 0),(3,.eptr 3 3 0 0)])) ?_ ?_
 ·refine wl_regD 16 ah ?_;refine zg4 ?_
  try refine zSm ?_
  refine cp am2 (afD) ?_;refine zg1 ?_;refine op_if 28 rfl ?_ ?_<;>intro o4 jP
  ·first | (have jI:bL ea=bL true:=by rw [<-xz,decide_eq_true jP,Bool.true_or]) | (have jI:bL eb=bL true:=by rw [<-xA,decide_eq_true jP,Bool.true_or])
   refine zg7 ?_
   try refine zSm ?_
   refine zg5 ?_;exact ym
  first | (have jI:bL ea=bL (decide (a=k.getD (k.length-1) 0)):=by rw [<-xz,decide_eq_false jP,Bool.false_or]) | (have jI:bL eb=bL (decide (b=(KB 0).getD ((KB 0).length-1) 0)):=by rw [<-xA,decide_eq_false jP,Bool.false_or])
  refine zg4 ?_;refine st_pure (guardX (v:=false) rfl rfl (o4) rfl) (.bin rfl rfl (sub1N J J)) ?_;refine zg2 ?_
  try refine zSm ?_
  refine cp am2 (afO) ?_;refine zg4 ?_;exact ym
 rintro _ ⟨zg,-,rfl⟩;refine zg1 ?_;refine wl_cut (fun L=>∃  (L1:St),(True)/\L=(mS L1 [(3,⟨3,[.agg [nI64 d,.list 3 (k.map ratL),.list 12 (C.map q4L)]],true⟩),(4,⟨3,[ratL a],true⟩),(5,⟨3,[ratL b],true⟩),(6,⟨3,[.agg [.v (.int .i64 0),.v (.slice none 0 0),.v (.slice none 0 0)]],true⟩),(9,⟨3,[ratL a],true⟩)] [(20,nI64 0),(19,.agg [ratL a,ratL b]),(7,.list 3 ((KB 0).map ratL)),(6,.eptr 6 3 0 0),(5,.eptr 5 3 0 0),(4,.eptr 4 3 0 0),(3,.eptr 3 3 0 0)])) ?_ ?_
 ·refine zg1 ?_;refine lp1 (fun(n:Nat) L=>(mS L [(3,⟨3,[.agg [nI64 d,.list 3 (k.map ratL),.list 12 (C.map q4L)]],true⟩),(4,⟨3,[ratL a],true⟩),(5,⟨3,[ratL b],true⟩),(6,⟨3,[.agg [.v (.int .i64 0),.v (.slice none 0 0),.v (.slice none 0 0)]],true⟩),(9,⟨3,[ratL a],true⟩)] [(20,nI64 0),(19,.agg [ratL a,ratL b]),(10,bL ea),(9,.eptr 9 3 0 0),(7,.list 3 ((KA n).map ratL)),(6,.eptr 6 3 0 0),(5,.eptr 5 3 0 0),(4,.eptr 4 3 0 0),(3,.eptr 3 3 0 0)])) (fun n=>n<=na) (fun n=>na-n) 0 (az _) ?_;rintro n L2 hn;refine zg2 ?_;refine wl_regD 10 ah ?_;refine zg3 ?_;refine op_if 40 rfl ?_ ?_<;>intro xK lD
  ·refine zg2 ?_;refine cp am2 (zV (by simpa using lD) n hn) ?_;refine zg6 ?_;refine wl_if rfl ?_ ?_<;>intro xQ h47
   ·have fy:n<na:=by
     have h1:=lD;rcases cu n na with g | g
     ·exact g
     exfalso;omega
    have iD:=hIA n fy;refine zg6 ?_;refine cp am2 (iD) ?_;refine zg4 ?_;exact nx1 (n+1) J
   obtain rfl:n=na:=by first | omega | (have:=jn (by simpa using lD);omega)
   refine zg5 ?_;exact k6
  obtain rfl:n=na:=by have:=jn lD;omega
  refine zg15 ?_;exact k6
 rintro _ ⟨LB2,-,rfl⟩;refine zg2 ?_;refine wl_regW (Weak.kill _ 9) ?_;refine zg4 ?_;refine fq ?_;refine zg12 ?_;refine wl_cut (fun L=>∃  (L1:St),(True)/\L=(mS L1 [(3,⟨3,[.agg [nI64 d,.list 3 (k.map ratL),.list 12 (C.map q4L)]],true⟩),(4,⟨3,[ratL a],true⟩),(5,⟨3,[ratL b],true⟩),(6,⟨3,[.agg [.v (.int .i64 0),.v (.slice none 0 0),.v (.slice none 0 0)]],true⟩),(9,⟨3,[ratL b],true⟩)] [(20,nI64 1),(19,.agg [ratL a,ratL b]),(10,bL eb),(9,.eptr 9 3 0 0),(7,.list 3 ((KB 0).map ratL)),(6,.eptr 6 3 0 0),(5,.eptr 5 3 0 0),(4,.eptr 4 3 0 0),(3,.eptr 3 3 0 0)])) ?_ ?_
 ·refine wl_regD 16 ah ?_;refine zg4 ?_
  try refine zSm ?_
  refine cp am2 (aeG) ?_;refine zg1 ?_;refine op_if 28 rfl ?_ ?_<;>intro o4 jP
  ·first | (have jI:bL ea=bL true:=by rw [<-xz,decide_eq_true jP,Bool.true_or]) | (have jI:bL eb=bL true:=by rw [<-xA,decide_eq_true jP,Bool.true_or])
   refine zg7 ?_
   try refine zSm ?_
   refine zg5 ?_;exact ym
  first | (have jI:bL ea=bL (decide (a=k.getD (k.length-1) 0)):=by rw [<-xz,decide_eq_false jP,Bool.false_or]) | (have jI:bL eb=bL (decide (b=(KB 0).getD ((KB 0).length-1) 0)):=by rw [<-xA,decide_eq_false jP,Bool.false_or])
  refine zg4 ?_;refine st_pure (guardX (v:=false) rfl rfl (o4) rfl) (.bin rfl rfl (sub1N J J)) ?_;refine zg2 ?_
  try refine zSm ?_
  refine cp am2 (ags) ?_;refine zg4 ?_;exact ym
 rintro _ ⟨zg,-,rfl⟩;refine zg1 ?_;refine wl_cut (fun L=>∃  (L1:St),(True)/\L=(mS L1 [(3,⟨3,[.agg [nI64 d,.list 3 (k.map ratL),.list 12 (C.map q4L)]],true⟩),(4,⟨3,[ratL a],true⟩),(5,⟨3,[ratL b],true⟩),(6,⟨3,[.agg [.v (.int .i64 0),.v (.slice none 0 0),.v (.slice none 0 0)]],true⟩),(9,⟨3,[ratL b],true⟩)] [(20,nI64 1),(19,.agg [ratL a,ratL b]),(7,.list 3 (w.map ratL)),(6,.eptr 6 3 0 0),(5,.eptr 5 3 0 0),(4,.eptr 4 3 0 0),(3,.eptr 3 3 0 0)])) ?_ ?_
 ·refine zg1 ?_;refine lp1 (fun(n:Nat) L=>(mS L [(3,⟨3,[.agg [nI64 d,.list 3 (k.map ratL),.list 12 (C.map q4L)]],true⟩),(4,⟨3,[ratL a],true⟩),(5,⟨3,[ratL b],true⟩),(6,⟨3,[.agg [.v (.int .i64 0),.v (.slice none 0 0),.v (.slice none 0 0)]],true⟩),(9,⟨3,[ratL b],true⟩)] [(20,nI64 1),(19,.agg [ratL a,ratL b]),(10,bL eb),(9,.eptr 9 3 0 0),(7,.list 3 ((KB n).map ratL)),(6,.eptr 6 3 0 0),(5,.eptr 5 3 0 0),(4,.eptr 4 3 0 0),(3,.eptr 3 3 0 0)])) (fun n=>n<=nb) (fun n=>nb-n) 0 (az _) ?_;rintro n L2 hn;refine zg2 ?_;refine wl_regD 10 ah ?_;refine zg3 ?_;refine op_if 40 rfl ?_ ?_<;>intro xK lD
  ·refine zg2 ?_;refine cp am2 (yK (by simpa using lD) n hn) ?_;refine zg6 ?_;refine wl_if rfl ?_ ?_<;>intro xQ h47
   ·have fy:n<nb:=by
     have h1:=lD;rcases cu n nb with g | g
     ·exact g
     exfalso;omega
    have iD:=z7 n fy;refine zg6 ?_;refine cp am2 (iD) ?_;refine zg4 ?_;exact nx1 (n+1) J
   obtain rfl:n=nb:=by first | omega | (have:=hzb (by simpa using lD);omega)
   refine zg5 ?_;exact k6
  obtain rfl:n=nb:=by have:=hzb lD;omega
  refine zg15 ?_;exact k6
 rintro _ ⟨LB2,-,rfl⟩;refine zg2 ?_;refine wl_regW (Weak.kill _ 9) ?_;refine zg4 ?_;refine km ?_;refine zg9 ?_;refine cp am2 (hO) ?_;refine zg20 ?_;refine st_opc [4] rfl rfl (.mk (caps:=[.boxp (ratL a)]) (.cons (.eptr rfl rfl rfl (ratE.csize _) (ratL_all _) (ratE.pure _) rfl) .nil) (fun x hx=>by rw [bD.1 hx];exact⟨rfl,rfl⟩)) rfl ?_;refine st_callP rfl (.cons (.pure tQ) (.cons (.pure (show LV.pure (.clo 154 [.boxp (ratL a)])=true by simp [LV.pure,pures,ratE.pure])) .nil)) (mR) ?_;refine fG ?_;refine zg6 ?_;refine st_opc [5] rfl rfl (.mk (caps:=[.boxp (ratL b)]) (.cons (.eptr rfl rfl rfl (ratE.csize _) (ratL_all _) (ratE.pure _) rfl) .nil) (fun x hx=>by rw [bD.1 hx];exact⟨rfl,rfl⟩)) rfl ?_;refine st_callP rfl (.cons (.pure tQ) (.cons (.pure (show LV.pure (.clo 155 [.boxp (ratL b)])=true by simp [LV.pure,pures,ratE.pure])) .nil)) (sr) ?_;refine zg8 ?_;refine cG ?_;refine zg4 ?_;refine wl_weak ((Weak.cell 12 rfl (fun Z μ w cs h=>rep_crv2 74 3 _ _ Z μ w cs h)).trans (Weak.newB _ 74 3 rfl)) ?_
 refine lp1 (fun(m:Nat) L=>(mS L [(3,⟨3,[.agg [nI64 d,.list 3 (k.map ratL),.list 12 (C.map q4L)]],true⟩),(4,⟨3,[ratL a],false⟩),(5,⟨3,[ratL b],false⟩),(6,⟨3,[.agg [.v (.int .i64 0),.v (.slice none 0 0),.v (.slice none 0 0)]],true⟩),(11,⟨3,[.agg [nI64 d,.list 3 (w.map ratL),.list 12 (C2.map q4L)]],true⟩),(12,⟨3,[.agg [nI64 d,.ref 74 3 0 m,.v (.slice none 0 0)]],true⟩),(74,⟨3,(ai m a).map ratL,true⟩)] [(68,nI64 m),(67,nI64 (d+1)),(14,nI64 l2),(13,nI64 (f1-1)),(12,.eptr 12 3 0 0),(11,.eptr 11 3 0 0),(7,.list 3 (w.map ratL)),(6,.eptr 6 3 0 0),(5,.eptr 5 3 0 0),(4,.eptr 4 3 0 0),(3,.eptr 3 3 0 0)])) (fun m=>m<=d+1) (fun m=>d+1-m) 0 (az _) ?_;rintro m L3 hm;refine zg6 ?_;refine wl_if rfl ?_ ?_<;>intro ae2 h69
 ·have cL:m<d+1:=J;have zz:(ai m a++[a])=ai (m+1) a:=by rw [qO]
  have eap:((ai m a).map ratL).take m=(ai m a).map ratL:=aH aj;refine zg9 ?_;refine st_store rfl (.appX (d:=74) (news:=[ratL a]) rfl rfl rfl rfl m9 (.inl rfl) ae aV aV Z32a T32 rfl B32 (.inl ⟨73,0,_,rfl,by decide,rfl,rfl,by simp,rfl,by simp [pures,ratE.pure]⟩) m9 m9 ae) ?_;refine zg5 ?_;refine wl_regW (Weak.kill _ 73) ?_;refine bq ?_;exact nx1 (m+1) J
 obtain rfl:m=d+1:=J;have zz:True:=trivial;have eap:((ai (d+1) a).map ratL).take (d+1)=(ai (d+1) a).map ratL:=aH aj;refine zg6 ?_;refine wl_regD 7 ah ?_;refine zg4 ?_;refine st_pure rfl (.bin rfl rfl (show binI .add .i64 ((f1-1:Nat):Int) 1=some (.int .i64 ((f1:Nat):Int)) from (by rw [add1N J,Nat.sub_add_cancel J]))) ?_;refine zg1 ?_;refine st_pure rfl (.sliceLb (a:=f1) (h:=l2) ratE rfl aV T32 rfl rfl om om) ?_;refine zSm ?_;refine st_store rfl (.appX (d:=74) (news:=((w.take l2).drop f1).map ratL) rfl rfl rfl rfl aj (.inl rfl) ae aV aV Z32a T32 rfl B32 (.inr (.inl rfl)) m9 m9 ae) ?_;refine zg9 ?_;refine cG ?_;refine zg4 ?_
 refine lp1 (fun(m:Nat) L=>(mS L [(3,⟨3,[.agg [nI64 d,.list 3 (k.map ratL),.list 12 (C.map q4L)]],true⟩),(4,⟨3,[ratL a],false⟩),(5,⟨3,[ratL b],false⟩),(6,⟨3,[.agg [.v (.int .i64 0),.v (.slice none 0 0),.v (.slice none 0 0)]],true⟩),(11,⟨3,[.agg [nI64 d,.list 3 (w.map ratL),.list 12 (C2.map q4L)]],true⟩),(12,⟨3,[.agg [nI64 d,.ref 74 3 0 (d+1+(l2-f1)+m),.v (.slice none 0 0)]],true⟩),(74,⟨3,(ai (d+1) a++((w.take l2).drop f1)++ai m b).map ratL,true⟩)] [(89,nI64 m),(88,nI64 (d+1)),(14,nI64 l2),(13,nI64 (f1-1)),(12,.eptr 12 3 0 0),(11,.eptr 11 3 0 0),(7,.list 3 (w.map ratL)),(6,.eptr 6 3 0 0),(5,.eptr 5 3 0 0),(4,.eptr 4 3 0 0),(3,.eptr 3 3 0 0)])) (fun m=>m<=d+1) (fun m=>d+1-m) 0 (az _) ?_;rintro m L4 hm;refine zg6 ?_;refine wl_if rfl ?_ ?_<;>intro ahZ h90
 ·have cL:m<d+1:=J;have ebl:(ai (d+1) a++((w.take l2).drop f1)++ai m b)++[b]=ai (d+1) a++((w.take l2).drop f1)++ai (m+1) b:=by rw [List.append_assoc _ (ai m b),<-qO]
  have ebp:((ai (d+1) a++((w.take l2).drop f1)++ai m b).map ratL).take (d+1+(l2-f1)+m)=(ai (d+1) a++((w.take l2).drop f1)++ai m b).map ratL:=aH (by rw [aA,cZ,cZ,yF];simp);refine zg9 ?_;refine st_store rfl (.appX (d:=74) (news:=[ratL b]) rfl rfl rfl rfl m9 (.inl rfl) ae aV aV Z32a T32 rfl B32 (.inl ⟨94,0,_,rfl,by decide,rfl,rfl,by simp,rfl,by simp [pures,ratE.pure]⟩) m9 m9 ae) ?_;refine zg5 ?_;refine wl_regW (Weak.kill _ 94) ?_;refine bq ?_;exact nx1 (m+1) J
 obtain rfl:m=d+1:=J;refine zg12 ?_;refine st_pure rfl (.bin rfl rfl (subNN (a:=f1-1) (b:=d) (c:=f1-1-d) J J)) ?_;refine zg1 ?_;refine st_pure rfl (.sliceLb (a:=f1-1-d) (h:=l2) q4E rfl qE T191 rfl rfl om om) ?_;refine zg11 ?_;exact retC [74] rfl rfl rfl cs (at_all cs rfl) T155 (.agg (.cons (.pure rfl) (.cons (imm_refm (l:=(ai (d+1) a++((w.take l2).drop f1)++ai (d+1) b)) ratE rfl rfl (by rw [cZ,cZ,yF];simp)) (.cons (.pure (pure_lst q4E 12 _)) .nil))))
theorem tmN_take (k:List Rat) (t:Rat):∀ i,i<=k.length->tmN k t i=(k.take i).count t
 | 0,_=>by simp [tmN]
 | i+1,h=>by
  rw [tmN,tmN_take k t i J,<-take_snocL (show i<k.length by omega),List.count_append,List.count_singleton];congr 1;by_cases e:k.getD i 0=t
  ·rw [if_pos e,if_pos (by simpa using e)]
  rw [if_neg e,if_neg (by simpa using e)]
theorem tmN_count (k:List Rat) (t:Rat):tmN k t k.length=k.count t:=by
 rw [tmN_take k t _ (an _),eZ]
def kq (d:Nat) (x a b y:Rat) (m n:Nat):List Rat:=(ai (d+1) x++ai m a)++(ai n b++ai (d+1) y)
section
variable (d:Nat) (x a b y:Rat) (m n:Nat)
theorem kq_len:(kq d x a b y m n).length=2*(d+1)+m+n:=by simp [kq];omega
theorem kq_00:kq d x a b y 0 0=kn2 d x y:=by simp [kq,kn2]
theorem kq_get (i:Nat) (h:i<2*(d+1)+m+n):(kq d x a b y m n).getD i 0=if i<d+1 then x else if i<d+1+m then a else if i<d+1+m+n then b else y:=by
 have l1:(ai (d+1) x++ai m a).length=d+1+m:=aj;unfold kq;by_cases h1:i<d+1
 ·rw [if_pos h1,gD1 (by rw [l1];omega),gD1 (by simpa using h1),getD_rep h1]
 rw [if_neg h1];by_cases h2:i<d+1+m
 ·rw [if_pos h2,gD1 (by rw [l1];omega),gD2 al,mj,getD_rep J]
 rw [if_neg h2,gD2 (by rw [l1];omega),l1];by_cases h3:i<d+1+m+n
 ·rw [if_pos h3,gD1 al,getD_rep J]
 rw [if_neg h3,gD2 al,mj,getD_rep J]
theorem kq_insA:(kq d x a b y m 0).take (d+1+m)++a :: (kq d x a b y m 0).drop (d+1+m)=kq d x a b y (m+1) 0:=by
 have l1:(ai (d+1) x++ai m a).length=d+1+m:=aj;unfold kq;rw [x8 l1,tB l1,qO (n:=m)];simp
theorem kq_insB:(kq d x a b y m n).take (d+1+m+n)++b :: (kq d x a b y m n).drop (d+1+m+n)=kq d x a b y m (n+1):=by
 have e:kq d x a b y m n=((ai (d+1) x++ai m a)++ai n b)++ai (d+1) y:=by simp [kq]
 have l1:((ai (d+1) x++ai m a)++ai n b).length=d+1+m+n:=al;rw [e,x8 l1,tB l1];unfold kq;rw [qO (n:=n)];simp
theorem kq_rl {R:Nat} (h1:rl x<=R) (h2:rl a<=R) (h3:rl b<=R) (h4:rl y<=R):∀ t∈kq d x a b y m n,rl t<=R:=fun t ht=>by
 simp only [kq,eF,jE] at ht;rcases ht with(⟨_,rfl⟩ | ⟨_,rfl⟩) | ⟨_,rfl⟩ | ⟨_,rfl⟩<;>assumption
end
theorem kq_tmA {d:Nat} {x a b y:Rat} (m:Nat) (h1:x≠a) (h2:a≠y):tmN (kq d x a b y m 0) a (kq d x a b y m 0).length=m:=by
 rw [tmN_count];simp [kq,acY,h1,h2.symm]
theorem kq_tmB {d:Nat} {x a b y:Rat} (m n:Nat) (h1:x≠b) (h2:a≠b) (h3:b≠y):tmN (kq d x a b y m n) b (kq d x a b y m n).length=n:=by
 rw [tmN_count];simp [kq,acY,h1,h2,h3.symm]
theorem kq_args {d:Nat} {x a b y:Rat} {m n i:Nat} (hm:m=0/\a=x\/m=d) (hn:n=0/\b=y\/n=d) (hi:i<=d):((kq d x a b y m n).drop (m+i+1)).take d=ai (d-i) a++ai i b:=by
 have eL:(ai (d+1) x++ai m a).drop (m+1)=ai d a:=by
  rcases hm with⟨rfl,rfl⟩ | rfl
  ·simp
  rw [tB aj]
 have eR:(ai n b++ai (d+1) y).take i=ai i b:=by
  rcases hn with⟨rfl,rfl⟩ | rfl
  ·simp;omega
  rw [aao (by simpa using hi)];simp;omega
 have e1:(kq d x a b y m n).drop (m+1)=ai d a++(ai n b++ai (d+1) y):=by
  unfold kq;rw [ab1 al,eL]
 rw [show m+i+1=(m+1)+i by omega,<-je,e1,ab1 (by simpa using hi),List.drop_replicate,List.take_append,aH aj,mj,show d-(d-i)=i by omega,eR]
theorem gbl_kn2 {d:Nat} {x y:Rat} {v args:List Rat} (hv:v.length=d+1):gbl (kn2 d x y) d d v args=blo d x y v args:=by
 have e0:(v.drop (d-d)).take (d+1)=v:=by rw [jy,dY,aH J]
 have key:∀ r,r<=d->gfi (gF (kn2 d x y) d d args) v r=bfi (fun t=>(t-x)/(y-x)) args v r:=by
  intro r
  induction r with
  | zero=>exact fun _=>rfl
  | succ r ih =>
   intro hr;rw [gfi,bfi,ih J];refine rext (by rw [gsj_len,bsj_len]) fun i hi=>?_;rw [gsj_len,bfi_len,hv] at hi;rw [gsj_get _ _ _ _ (by rw [bfi_len,hv];exact hi),bsj_get _ _ _ _ (by rw [bfi_len,hv];exact hi)];by_cases g:r<i
   ·rw [if_pos g,if_pos g];have e:gF (kn2 d x y) d d args r i=(args.getD r 0-x)/(y-x):=by
     unfold gF;rw [kn2_get _ _ _ _ J,kn2_get _ _ _ _ J,if_pos J,if_neg J]
    rw [e]
   rw [if_neg g,if_neg g]
 unfold gbl blo;rw [e0,key d (an _)]
theorem gpol_kn2 {d:Nat} {x y:Rat} {C:List Q4} {args:List Rat} (hC:C.length=d+1):gpol (kn2 d x y) d d C args=pol d x y C args:=by
 unfold gpol pol;rw [gbl_kn2 (by simpa using hC),gbl_kn2 (by simpa using hC),gbl_kn2 (by simpa using hC),gbl_kn2 (by simpa using hC)]
def cutQ (d:Nat) (x y:Rat) (C:List Q4) (a b:Rat):List Q4:=(b9 (d+1)).map fun i=>pol d x y C (ai (d-i) a++ai i b)
theorem gOK_kn2 {d:Nat} {x y:Rat} (h6:d<=6) (y6:x<y) (hx:rl x<=100) (hy:rl y<=100):gOK (kn2 d x y) d d where
 d6:=h6
 kl:=by rw [kn2_len];omega
 kr:=kn2_rl hx hy
 srt:=fun i j ss hj=>by
  rw [kn2_len] at hj;rw [kn2_get _ _ _ _ J,kn2_get _ _ _ _ hj];split<;>split<;>first | grind | (exfalso;omega)
 p1:=an _
 p2:=by rw [kn2_len];omega
 lt:=by rw [kn2_get _ _ _ _ J,kn2_get _ _ _ _ J,if_pos J,if_neg J];exact y6
def bkQ (q:Q4):PoR:=⟨⟨q.x/q.w,q.y/q.w,q.z/q.w⟩,q.w⟩
theorem getD_mapB {C:List Q4} {i:Nat} (h:i<C.length):(C.map bkQ).getD i default=bkQ (C.getD i default):=by
 rw [ao,bU,ao,aB h];rfl
theorem c_SpCutB (d:Nat) (x y a b:Rat) (C:List Q4) (R:Nat) (h1:1<=d) (h6:d<=6) (pj:x<=a) (aW:a<b) (cU:b<=y) (hx:rl x<=64) (hy:rl y<=64) (ha:rl a<=64) (hb:rl b<=64) (hC:C.length=d+1) (cQ:1<=R) (hR:R<=10000000) (eD:∀ q∈C,bd4 R q) :
  CallP aa 84 [.agg [nI64 d,.list 3 ((kn2 d x y).map ratL),.list 12 (C.map q4L)],ratL a,ratL b] (.agg [nI64 d,.list 3 ((kn2 d a b).map ratL),.list 12 ((cutQ d x y C a b).map q4L)]):=by
 obtain⟨m,hm⟩:∃ m,(m=0/\a=x)\/(m=d/\a≠x):=by
  by_cases e:a=x
  ·exact⟨0,.inl ⟨rfl,e⟩⟩
  exact⟨d,.inr ⟨rfl,e⟩⟩
 obtain⟨n,hn⟩:∃ n,(n=0/\b=y)\/(n=d/\b≠y):=by
  by_cases e:b=y
  ·exact⟨0,.inl ⟨rfl,e⟩⟩
  exact⟨d,.inr ⟨rfl,e⟩⟩
 have hmd:m<=d:=J;have hnd:n<=d:=J;have hma:0<m->x<a:=fun h=>by
  rcases hm with e | e
  ·omega
  have:=e.2;grind
 have vY:0<n->b<y:=fun h=>by
  rcases hn with e | e
  ·omega
  have:=e.2;grind
 have eG:∀ p q,∀ t∈kq d x a b y p q,rl t<=64:=fun p q=>kq_rl d x a b y p q hx ha hb hy;have dB:=kq_len d x a b y m n;have zV:decide (a=x)=false->∀ j,j<=m->CallP aa 150 [.list 3 ((kq d x a b y j 0).map ratL),ratL a] (nI64 (d-(m-j))):=fun hh j hj=>by
  have ak:a≠x:=by simpa using hh
  have:=c_KTimes (kq d x a b y j 0) (by rw [kq_len];omega) (fun t ht=>aw (eG j 0 t ht) ae) a J;rw [kq_tmA j (fun e=>ak e.symm) ay] at this;rwa [show d-(m-j)=j by rcases hm with e | e;exact absurd e.2 ak;omega]
 have yK:decide (b=y)=false->∀ j,j<=n->CallP aa 150 [.list 3 ((kq d x a b y m j).map ratL),ratL b] (nI64 (d-(n-j))):=fun hh j hj=>by
  have ak:b≠y:=by simpa using hh
  have:=c_KTimes (kq d x a b y m j) (by rw [kq_len];omega) (fun t ht=>aw (eG m j t ht) ae) b J;rw [kq_tmB m j ay ay ak] at this;rwa [show d-(n-j)=j by rcases hn with e | e;exact absurd e.2 ak;omega]
 have hIA:∀ j,j<m->CallP aa 151 [.list 3 ((kq d x a b y j 0).map ratL),ratL a] (.list 3 ((kq d x a b y (j+1) 0).map ratL)):=fun j hj=>by
  have ahj:=hma J;have:=c_KIns (kq d x a b y j 0) a (d+1+j) (by rw [kq_len];omega) (by rw [kq_len];omega) (fun t ht=>aw (eG j 0 t ht) ae) J (fun i hi=>by
   rw [kq_get _ _ _ _ _ _ _ _ J];split
   ·exact pj
   ·first | exact dD | (rw [if_pos hi];exact dD)) (by
   rw [kq_get _ _ _ _ _ _ _ _ J,if_neg J,if_neg J,if_neg J];grind)
  rwa [kq_insA] at this
 have z7:∀ j,j<n->CallP aa 151 [.list 3 ((kq d x a b y m j).map ratL),ratL b] (.list 3 ((kq d x a b y m (j+1)).map ratL)):=fun j hj=>by
  have wK:=vY J;have:=c_KIns (kq d x a b y m j) b (d+1+m+j) (by rw [kq_len];omega) (by rw [kq_len];omega) (fun t ht=>aw (eG m j t ht) ae) J (fun i hi=>by
   rw [kq_get _ _ _ _ _ _ _ _ J];split
   ·grind
   ·split
    ·grind
    first | exact dD | (rw [if_pos hi];exact dD)) (by
   rw [kq_get _ _ _ _ _ _ _ _ J,if_neg J,if_neg J,if_neg J];exact wK)
  rwa [kq_insB] at this
 have hI:∀ j,j<d+1+m+n->∃ r,j<=r/\r+1<2*(d+1)+m+n/\(kq d x a b y m n).getD r 0<(kq d x a b y m n).getD (r+1) 0/\(∀ i,j<=i->i<r->¬(kq d x a b y m n).getD i 0<(kq d x a b y m n).getD (i+1) 0)/\x<=(kq d x a b y m n).getD r 0/\(kq d x a b y m n).getD r 0<y:=fun j hj=>by
  by_cases c1:j<=d
  ·refine⟨d,c1,J,?_,fun i h2 h3=>?_,?_,?_⟩
   ·rw [kq_get _ _ _ _ _ _ _ _ J,kq_get _ _ _ _ _ _ _ _ J,if_pos J,if_neg J];split
    ·exact hma J
    split<;>grind
   ·rw [kq_get _ _ _ _ _ _ _ _ J,kq_get _ _ _ _ _ _ _ _ J,if_pos J,if_pos J];grind
   ·rw [kq_get _ _ _ _ _ _ _ _ J,if_pos J];exact dD
   rw [kq_get _ _ _ _ _ _ _ _ J,if_pos J];grind
  by_cases c2:j<=d+m
  ·refine⟨d+m,c2,J,?_,fun i h2 h3=>?_,?_,?_⟩
   ·rw [kq_get _ _ _ _ _ _ _ _ J,kq_get _ _ _ _ _ _ _ _ J,if_neg J,if_pos J,if_neg J,if_neg J];split<;>grind
   ·rw [kq_get _ _ _ _ _ _ _ _ J,kq_get _ _ _ _ _ _ _ _ J,if_neg J,if_pos J,if_neg J,if_pos J];grind
   ·rw [kq_get _ _ _ _ _ _ _ _ J,if_neg J,if_pos J];exact pj
   rw [kq_get _ _ _ _ _ _ _ _ J,if_neg J,if_pos J];grind
  have wK:=vY J;refine⟨d+m+n,J,J,?_,fun i h2 h3=>?_,?_,?_⟩
  ·rw [kq_get _ _ _ _ _ _ _ _ J,kq_get _ _ _ _ _ _ _ _ J,if_neg J,if_neg J,if_pos J,if_neg J,if_neg J,if_neg J];exact wK
  ·rw [kq_get _ _ _ _ _ _ _ _ J,kq_get _ _ _ _ _ _ _ _ J,if_neg J,if_neg J,if_pos J,if_neg J,if_neg J,if_pos J];grind
  ·rw [kq_get _ _ _ _ _ _ _ _ J,if_neg J,if_neg J,if_pos J];grind
  rw [kq_get _ _ _ _ _ _ _ _ J,if_neg J,if_neg J,if_pos J];exact wK
 obtain⟨I,hI⟩:∃ I:Nat->Nat,∀ j,j<d+1+m+n->j<=I j/\I j+1<2*(d+1)+m+n/\(kq d x a b y m n).getD (I j) 0<(kq d x a b y m n).getD (I j+1) 0/\(∀ i,j<=i->i<I j->¬(kq d x a b y m n).getD i 0<(kq d x a b y m n).getD (i+1) 0)/\x<=(kq d x a b y m n).getD (I j) 0/\(kq d x a b y m n).getD (I j) 0<y :=
  ⟨fun j=>if h:j<d+1+m+n then(hI j h).choose else 0,fun j h=>by simp only [h,dif_pos];exact(hI j h).choose_spec⟩
 have hrW:∀ i,i<2*(d+1)+m+n->rl ((kq d x a b y m n).getD i 0)<=64:=fun i hi=>eG m n _ (getD_mem (by rw [dB];exact hi));have hO:=c_OverG (kn2 d x y) (kq d x a b y m n) d (d+1+m+n) C R I (fun _=>d) J (by rw [dB];omega) (by rw [dB];omega) (fun t ht=>aw (eG m n t ht) ae) (by rw [kn2_len,hC];omega) cQ hR eD (fun j hj=>by rw [dB];have:=(hI j hj).2.1;omega)
  (fun j hj=>gOK_kn2 h6 ay J J)
  (fun j hj=>c_pieceG (kq d x a b y m n) j (I j) (by rw [dB];omega) (fun t ht=>aw (eG m n t ht) ae) (hI j hj).1 (by rw [dB];exact(hI j hj).2.1) (hI j hj).2.2.1 (hI j hj).2.2.2.1)
  (fun j hj=>c_KIvl2 d x y _ h6 J J (by have:=hrW (I j) (by have:=(hI j hj).2.1;omega);omega) (hI j hj).2.2.2.2.1 (hI j hj).2.2.2.2.2)
 have mR:CallP aa 153 [.list 3 ((kq d x a b y m n).map ratL),.clo 154 [.boxp (ratL a)]] (nI64 (d+1+m)):=by
  have:=c_IdxRc 154 [.boxp (ratL a)] (by simp [pures,LV.pure,ratE.pure]) (fun x hx=>by rw [bD.1 hx];exact⟨rfl,rfl⟩) (fun t=>decide (cmpR t a > 0)) (kq d x a b y m n) (by rw [dB];omega) (fun t ht=>c_SpCut1 a t (by have:=eG m n t ht;omega));rwa [fIdx_hit (i:=d+1+m) (by rw [dB];omega) (fun j hj=>by
   have e:(kq d x a b y m n).getD j default=(kq d x a b y m n).getD j 0:=rfl;rw [e,kq_get _ _ _ _ _ _ _ _ J];refine decide_eq_false fun hh=>?_;have hh:=cmpR_pos.1 hh;split at hh
   ·grind
   ·first | grind | (rw [if_pos hj] at hh;grind)) (by
   have e:(kq d x a b y m n).getD (d+1+m) default=(kq d x a b y m n).getD (d+1+m) 0:=rfl;rw [e,kq_get _ _ _ _ _ _ _ _ J,if_neg J,if_neg J];refine decide_eq_true (cmpR_pos.2 ?_);split<;>grind)] at this
 have sr:CallP aa 153 [.list 3 ((kq d x a b y m n).map ratL),.clo 155 [.boxp (ratL b)]] (nI64 (d+1+m)):=by
  have:=c_IdxRc 155 [.boxp (ratL b)] (by simp [pures,LV.pure,ratE.pure]) (fun x hx=>by rw [bD.1 hx];exact⟨rfl,rfl⟩) (fun t=>decide (cmpR t b>=0)) (kq d x a b y m n) (by rw [dB];omega) (fun t ht=>c_SpCut2 b t (by have:=eG m n t ht;omega));rwa [fIdx_hit (i:=d+1+m) (by rw [dB];omega) (fun j hj=>by
   have e:(kq d x a b y m n).getD j default=(kq d x a b y m n).getD j 0:=rfl;rw [e,kq_get _ _ _ _ _ _ _ _ J];refine decide_eq_false fun hh=>?_;have hh:=cmpR_ge.1 hh;split at hh
   ·grind
   ·first | grind | (rw [if_pos hj] at hh;grind)) (by
   have e:(kq d x a b y m n).getD (d+1+m) default=(kq d x a b y m n).getD (d+1+m) 0:=rfl;rw [e,kq_get _ _ _ _ _ _ _ _ J,if_neg J,if_neg J];refine decide_eq_true (cmpR_ge.2 ?_);split<;>grind)] at this
 have gI:=kq_len d x a b y m 0;have fO:(kq d x a b y m 0).getD 0 0=x:=by rw [kq_get _ _ _ _ _ _ _ _ J,if_pos J]
 have eH:(kq d x a b y m 0).getD ((kq d x a b y m 0).length-1) 0=y:=by rw [gI,kq_get _ _ _ _ _ _ _ _ J,if_neg J,if_neg J,if_neg J]
 have main:=c_SpCutG (kn2 d x y) (kq d x a b y m n) d C _ a b (decide (a=x)) (decide (b=y)) m n (fun j=>kq d x a b y j 0) (fun j=>kq d x a b y m j) (d+1+m) (d+1+m) h6 J J lj lj (fun t ht=>aw (kn2_rl hx hy t ht) ae)
  (kq_00 d x a b y) rfl rfl (by show 0<(kq d x a b y m 0).length;rw [gI];omega) (by show (kq d x a b y m 0).length<=100;rw [gI];omega) (fun t ht=>aw (eG m 0 t ht) ae) (by rw [dB];omega)
  (by rw [kn2_lo,kn2_len,kn2_hi,decide_eq_false (show ¬a=y by grind),Bool.or_false]) (by show (decide (b=(kq d x a b y m 0).getD 0 0) || decide (b=(kq d x a b y m 0).getD ((kq d x a b y m 0).length-1) 0))=_;rw [fO,eH,decide_eq_false (show ¬b=x by grind),Bool.false_or]) hmd hnd
  (fun h=>by have:=of_decide_eq_true h;rcases hm with e | e<;>grind) (fun h=>by have:=of_decide_eq_true h;rcases hn with e | e<;>grind) zV yK hIA z7 hO mR sr J (an _) aj (by rw [dB];simp;omega)
 have e1:((kq d x a b y m n).take (d+1+m)).drop (d+1+m)=[]:=ep (by rw [bZ];exact Nat.min_le_left _ _);have e2:((((b9 (d+1+m+n)).map fun j=>gpol (kn2 d x y) d ((fun _=>d) j) C (((kq d x a b y m n).drop (j+1)).take d)).take (d+1+m)).drop (d+1+m-1-d))=cutQ d x y C a b:=by
  unfold cutQ;refine lX (by first | (simp;done) | (simp;omega)) fun i h1 h2=>?_;have hi:i<d+1:=by simpa using h2
  simp only [List.getElem_drop,List.getElem_take,adA,List.getElem_range];rw [show d+1+m-1-d+i=m+i by omega,gpol_kn2 hC,kq_args (by rcases hm with e | e;exact .inl e;exact .inr e.1) (by rcases hn with e | e;exact .inl e;exact .inr e.1) J]
 rw [e1,e2,aS] at main;exact main
def inC (g:List Q4->List Q4) (V:Nat) (rows:List (List PoR)):List (List PoR):=(hoC V rows).map fun C=>(g C).map bkQ
theorem inC_len (g:List Q4->List Q4) (V:Nat) (rows:List (List PoR)):(inC g V rows).length=V+1:=by rw [inC,aA,hoC_len]
theorem hoC_at {V:Nat} (rows:List (List PoR)) {j:Nat} (h:j<V+1):(hoC V rows)[j]?=some ((rows.map fun r=>r.getD j default).map hoQ):=by
 rw [hoC,bU,swR_at rows h];rfl
theorem inC_take (g:List Q4->List Q4) {V:Nat} (rows:List (List PoR)) {j:Nat} (h:j<V+1):(inC g V rows).take j++[(g ((rows.map fun r=>r.getD j default).map hoQ)).map bkQ]=(inC g V rows).take (j+1):=by
 rw [inC,nV,bU,hoC_at rows h];rfl
theorem hoC_mem {V:Nat} (rows:List (List PoR)) {j:Nat} (h:j<V+1):(rows.map fun r=>r.getD j default).map hoQ∈hoC V rows:=List.mem_of_getElem? (hoC_at rows h)
namespace H_c_inUG
theorem zSm {p q:Prop} (k:q) (e:p=q:=by simp only [sNF,ar,au,aq,prL,iC,a9,gq,eJ,xR,egl,ig,bg,yz,tZ,fy0,fyc,kills_map (slE U k2),kills_map prE,aA,bA,aQ,bc,aR,bh,aZ,aS,q4L_kill,kills_map q4E,slL_kill,kills_map (slE U kU),prL_kill,kills_map prE,dfr,dfq,bA,aQ,bc,aR,bh,aZ,aS,aN,aK,aO,reduceIte,if_true,if_false,aX,LV.kill,kills];exact rfl):p:=e.mpr k
end H_c_inUG
open H_c_inUG in
theorem c_inUG (R U V:Nat) (kU kV:List Rat) (rows:List (List PoR)) (h:pf R U V rows) (aid:0<kU.length) (iE:kU.length<=100) (fg:kV.length<=100) (rf:∀ x∈kU,rl x<=1000) (qf:∀ x∈kV,rl x<=1000) (hR:R<=200000) (f:Nat) (cap:List LV) (bN:pures cap=true) (hcs:∀ x∈cap,x.csize=1/\x.isAgg=false) (k2:List Rat) (h2l:k2.length<=100) (oA:0<k2.length) (h2r:∀ x∈k2,rl x<=1000) (g:List Q4->List Q4) (R2 R4:Nat) (zG:R4<=1000000000) (hf:∀ C∈hoC V rows,CallP aa f ([slL U kU C]++cap) (slL U k2 (g C))) (rm:∀ C∈hoC V rows,(g C).length=U+1) (hgb:∀ C∈hoC V rows,∀ q∈g C,bd4 R4 q/\0<q.w) (kJ:pf R2 V U (inC g V rows)):CallP aa 82 [.agg [nI64 U,nI64 V,.list 3 (kU.map ratL),.list 3 (kV.map ratL),.list 1 (rows.map prL)],.clo f cap] (.agg [nI64 U,nI64 V,.list 3 (k2.map ratL),.list 3 (kV.map ratL),.list 1 ((swR U (inC g V rows)).map prL)]):=by
 have bK:LV.pure (.agg [nI64 U,nI64 V,.list 3 (kU.map ratL),.list 3 (kV.map ratL),.list 1 (rows.map prL)])=true:=bH;have dC:=pure_lst prE 1 rows;have kE:=pure_lst prE 1 (swR V rows);have cY:=pure_lst ratE 3 kU;have me:=pure_lst ratE 3 kV;have eC:=h.u3;have fj:=h.v3;have jr:=h.n;have fH:=h.r0 (az U);have bg:=swR_len V rows;have yz:=hoC_len V rows;have hT:=c_trsp R U V rows h;have hSp:=pure_lst (slE U kU) 3 (hoC V rows);have afI:LV.pure (.clo f cap)=true:=by simpa [LV.pure] using bN
 have vc:=pure_lst ratE 3 k2;have tZ:=inC_len g V rows;have yC:=c_SpCop k2 J (fun x hx=>aw (h2r x hx) ae);have xw:=c_SpCop kV J (fun x hx=>aw (qf x hx) ae);have hAl:=c_alU R U V kU kV rows h iE fg rf qf hR;have hT2:=c_trsp R2 V U (inC g V rows) kJ;have ahp:=pure_lst prE 1 (inC g V rows);have hsr:LV.pure (.agg [nI64 U,nI64 V,.list 3 (k2.map ratL),.list 3 (kV.map ratL),.list 1 ((swR U (inC g V rows)).map prL)])=true:=bH;refine fnP Tryz.func82 (ht:=(fun g=>LV.ren_pure g _ bH)) ?_;have iC:True:=trivial;have a9:True:=trivial;have gq:True:=trivial;have eJ:True:=trivial;have xR:True:=trivial;have egl:True:=trivial;have ig:True:=trivial;refine zg7 ?_;refine wl_regD 7 ah ?_;refine zg4 ?_;refine cp am1 (xw) ?_;refine zg14 ?_;refine cp am1 (hAl) ?_;refine zg5 ?_;refine wl_weak (((Weak.kill _ 2).trans (Weak.cell 5 rfl (fun Z μ w cs h=>rep_srfL _ _ _ _ Z μ w cs h))).trans (Weak.own (t:=6) 52 1 rfl rfl)) ?_
 refine lp1 (fun(j:Nat) L=>(mS L [(4,⟨5,[.agg [.v (.int .i64 0),.v (.int .i64 0),.v (.slice none 0 0),.v (.slice none 0 0),.v (.slice none 0 0)]],true⟩),(5,⟨5,[.agg [nI64 (uu U j),nI64 V,.list 3 ((kk k2 j).map ratL),.list 3 (kV.map ratL),.v (.slice none 0 0)]],true⟩),(52,⟨1,((inC g V rows).take j).map prL,true⟩)] [(22,nI64 j),(21,nI64 (V+1)),(20,.list 3 ((hoC V rows).map (slL U kU))),(6,.ref 52 1 0 j),(5,.eptr 5 5 0 0),(4,.eptr 4 5 0 0),(1,.clo f cap)])) (fun j=>j<=V+1) (fun j=>V+1-j) 0 (az _) ?_;rintro j L1 hj;refine zg6 ?_;refine wl_if rfl ?_ ?_<;>intro lC kt
 ·have bo:j<V+1:=J;have wB:=hoC_mem rows bo;have egl:=hoC_get (V:=V) rows bo;have ig:(g ((rows.map fun r=>r.getD j default).map hoQ)).length=U+1:=rm _ wB;have ah7:((g ((rows.map fun r=>r.getD j default).map hoQ)).map bkQ).length=U+1:=by rw [aA,ig]
  have iC:(((inC g V rows).take j).map prL).take j=((inC g V rows).take j).map prL:=aH al;have gq:((inC g V rows).take j).map prL++[LV.list 12 (((g ((rows.map fun r=>r.getD j default).map hoQ)).map bkQ).map poL)]=((inC g V rows).take (j+1)).map prL:=by
   show ((inC g V rows).take j).map prL++[prL ((g ((rows.map fun r=>r.getD j default).map hoQ)).map bkQ)]=_;rw [map_snoc,inC_take g rows bo]
  have hc:=hf _ wB;have vw:LV.pure (slL U kU ((rows.map fun r=>r.getD j default).map hoQ))=true:=(slE U kU).pure _;have agt:LV.pure (slL U k2 (g ((rows.map fun r=>r.getD j default).map hoQ)))=true:=(slE U k2).pure _;have hph:=pure_lst q4E 12 (g ((rows.map fun r=>r.getD j default).map hoQ));refine zg6 ?_;refine st_pure rfl (.idxL rfl yb T155 rfl J (slAt (i:=j) J) rfl) ?_;refine zSm ?_;refine st_pure rfl (.ldbx rfl vw rfl rfl) ?_;refine zg8 ?_;refine st_opc [] rfl rfl (.clo (f:=f) (cap:=cap) (args:=[(slL U kU ((rows.map fun r=>r.getD j default).map hoQ))]) rfl (.cons (.pure vw) .nil) ⟨bN,hcs⟩ hc.1 ae (fun _ h=>by cases h)) (hc.2 _) ?_;refine zg5 ?_;refine wl_regAW (Weak.boxp (t:=9) (b:=9) rfl rfl rfl rfl agt) ?_;refine zSm ?_;refine sM ?_;refine any_hoistC 2 rfl rfl ah (.pure faA) fmV fmA ?_;refine any_hoistC 3 rfl rfl ah (.pure (.ldbx rfl vc rfl rfl)) (fun b=>show LV.kill b (.list 3 (k2.map ratL))=(.list 3 (k2.map ratL)) from LV.kill_pure b _ vc) fmA ?_
  refine any_hoistC 4 rfl rfl ah (opvP (.cons (.pure vc) .nil) yC) (fun b=>show LV.kill b (.list 3 (k2.map ratL))=(.list 3 (k2.map ratL)) from LV.kill_pure b _ vc) (aF (fun _=>rfl) (aF (fun b=>show LV.kill b (.list 3 (k2.map ratL))=(.list 3 (k2.map ratL)) from LV.kill_pure b _ vc) trivial)) ?_;refine any_1 5 _ ah rfl ?_;refine fQ ?_;refine any_1 6 _ ah rfl ?_;refine fQ ?_;refine any_1 7 _ ah rfl ?_;refine fQ ?_;refine any_1 8 _ ah rfl ?_;refine fQ ?_;refine any_0 ah ?_;refine zg10 ?_;refine st_pure rfl (.ldbx rfl hph rfl rfl) ?_;refine zg5 ?_;refine wl_weak ((Weak.kill _ 8).trans (Weak.own (t:=10) 47 12 rfl rfl)) ?_
  refine lp1 (fun(i:Nat) L=>(mS L [(4,⟨5,[.agg [.v (.int .i64 0),.v (.int .i64 0),.v (.slice none 0 0),.v (.slice none 0 0),.v (.slice none 0 0)]],true⟩),(5,⟨5,[.agg [nI64 U,nI64 V,.list 3 (k2.map ratL),.list 3 (kV.map ratL),.v (.slice none 0 0)]],true⟩),(52,⟨1,((inC g V rows).take j).map prL,true⟩),(47,⟨12,(((g ((rows.map fun r=>r.getD j default).map hoQ)).map bkQ).take i).map poL,true⟩)] [(39,nI64 i),(38,nI64 (U+1)),(37,.list 12 ((g ((rows.map fun r=>r.getD j default).map hoQ)).map q4L)),(10,.ref 47 12 0 i),(22,nI64 j),(21,nI64 (V+1)),(20,.list 3 ((hoC V rows).map (slL U kU))),(6,.ref 52 1 0 j),(5,.eptr 5 5 0 0),(4,.eptr 4 5 0 0),(1,.clo f cap)])) (fun i=>i<=U+1) (fun i=>U+1-i) 0 (az _) ?_;rintro i L2 hi;refine zg6 ?_;refine wl_if rfl ?_ ?_<;>intro xK lD
  ·have hi2:i<U+1:=J;have pT:=hgb _ wB _ (getD_memQ (C:=(g ((rows.map fun r=>r.getD j default).map hoQ))) (i:=i) J);have a9:((((g ((rows.map fun r=>r.getD j default).map hoQ)).map bkQ).take i).map poL).take i=(((g ((rows.map fun r=>r.getD j default).map hoQ)).map bkQ).take i).map poL:=aH al;have eJ:((g ((rows.map fun r=>r.getD j default).map hoQ)).map bkQ).take i++[(bkQ ((g ((rows.map fun r=>r.getD j default).map hoQ)).getD i default))]=((g ((rows.map fun r=>r.getD j default).map hoQ)).map bkQ).take (i+1):=by
    rw [<-getD_mapB J];have:=mapT (fun q:PoR=>q) ((g ((rows.map fun r=>r.getD j default).map hoQ)).map bkQ) default (i:=i) J;rwa [xr] at this
   have hFP:CallP aa 114 [q4L ((g ((rows.map fun r=>r.getD j default).map hoQ)).getD i default)] (poL (bkQ ((g ((rows.map fun r=>r.getD j default).map hoQ)).getD i default))):=c_FourP _ _ _ _ R4 zG pT.1.1 pT.1.2.1 pT.1.2.2.1 pT.1.2.2.2 pT.2;refine zg15 ?_;refine zSm ?_;refine st_callP rfl (.cons (.pure (q4E.pure _)) .nil) (hFP) ?_;refine zg1 ?_;refine st_store rfl (.appX (d:=47) (news:=[poL (bkQ ((g ((rows.map fun r=>r.getD j default).map hoQ)).getD i default))]) rfl rfl rfl rfl tr (.inl rfl) ae eI eI Z119 T119 cs B119 (.inl ⟨46,0,_,rfl,by decide,rfl,rfl,by simp,rfl,by simp [pures,poE.pure]⟩) tr tr ae) ?_;refine zg4 ?_;refine wl_regW ((Weak.kill _ 12).trans (Weak.kill _ 46)) ?_;refine bq ?_;exact cq
  obtain rfl:i=U+1:=J;rw [(aH J:((g ((rows.map fun r=>r.getD j default).map hoQ)).map bkQ).take (U+1)=((g ((rows.map fun r=>r.getD j default).map hoQ)).map bkQ))];refine zg5 ?_;refine wl_regW (Weak.hand (t:=10) (b:=47) poE rfl rfl J) ?_;refine zg3 ?_;refine st_store rfl (.appX (d:=52) (news:=[prL ((g ((rows.map fun r=>r.getD j default).map hoQ)).map bkQ)]) rfl rfl rfl rfl lJ (.inl rfl) ae jG jG prZ T59 cs B59 (.inl ⟨51,0,_,rfl,by decide,rfl,rfl,by simp,rfl,by simp [pures,prE.pure]⟩) lJ lJ ae) ?_;refine zg4 ?_;refine wl_regW (Weak.kill _ 51) ?_;refine bq ?_;exact mH
 obtain rfl:j=V+1:=J;rw [aH (by omega:(inC g V rows).length<=V+1)];refine zg8 ?_;refine st_callPf [52] rfl rfl (.cons (imm_refm prE rfl rfl tZ.symm) .nil) (hT2) ?_;refine zg11 ?_;exact retC [] rfl rfl rfl cs (at_all cs rfl) T29 (.pure hsr)
open H_c_Distinct in
theorem c_SpInsG (a b x y:Rat) (ha:rl a<=1000) (hb:rl b<=1000) (hx:rl x<=1000) (hy:rl y<=1000) (aW:a<=b) (h1:x<=a) (h2:b<=y):CallP aa 146 [spL (a,b),spL (x,y)] (bL true):=by
 have hH:∀ t,rl t<=1000->x<=t->t<=y->CallP aa 92 [spL (x,y),ratL t] (bL true):=fun t ht h1 h2=>by
  have:=c_SHas (x,y) t (by show rl x+rl t<=_;omega) (by show rl t+rl y<=_;omega);unfold hasR at this;rw [decide_eq_true h1,decide_eq_true h2] at this;exact this
 refine fnP Tryz.func146 ?_;refine zg12 ?_;refine cp am2 (hH a ha h1 ay) ?_;refine zg1 ?_;refine st_pure eE ldA ?_;refine mg ?_;refine st_callP eE (.cons im0 (.cons im0 .nil)) (hH b hb ay h2) ?_;refine st_pure rfl (.pickT rfl ((rfl))) ?_;refine zg4 ?_;exact dS
open H_c_Distinct in
theorem c_SwitG (a b x y:Rat) (ha:rl a<=1000) (hb:rl b<=1000) (hx:rl x<=1000) (hy:rl y<=1000) (aW:a<b) (h1:x<=a) (h2:b<=y):CallP aa 81 [spL (a,b),spL (x,y)] (bL true):=by
 have hle:a<=b:=ay;have hS:CallP aa 139 [ratL a,ratL b] (bL false):=by
  have:=c_RSame a b J;rwa [decide_eq_false ay] at this
 refine fnP Tryz.func81 ?_;refine zg10 ?_;refine cp am1 (c_SpVal a b ha hb hle) ?_;refine zg1 ?_;refine mg ?_;refine mg ?_;refine st_callP eE (.cons im0 (.cons im0 .nil)) (hS) ?_;refine st_pure eE (.not rfl) ?_;refine st_pure rfl (.pickT rfl ((rfl))) ?_;refine zg1 ?_;refine st_pure eE ldA ?_;refine st_pure eE ldA ?_;refine st_callP eE (.cons im0 (.cons im0 .nil)) (c_SpInsG a b x y ha hb hx hy hle h1 h2) ?_;refine st_pure rfl (.pickT rfl ((rfl))) ?_;refine zg4 ?_;exact dS
namespace H_c_CutG1
theorem zSm {p q:Prop} (k:q) (e:p=q:=by simp only [sNF,ar,au,aq,slL_kill,q4L_kill,kills_map q4E,slL_kill,prL_kill,kills_map prE,dfr,dfq,bA,aQ,bc,aR,bh,aZ,aS,aN,aK,aO,reduceIte,if_true,if_false,aX,LV.kill,kills];exact rfl):p:=e.mpr k
end H_c_CutG1
open H_c_CutG1 in
theorem c_CutG1 (d:Nat) (x y a b:Rat) (C:List Q4) (R:Nat) (h1:1<=d) (h6:d<=6) (pj:x<=a) (aW:a<b) (cU:b<=y) (hx:rl x<=64) (hy:rl y<=64) (ha:rl a<=64) (hb:rl b<=64) (hC:C.length=d+1) (cQ:1<=R) (hR:R<=10000000) (eD:∀ q∈C,bd4 R q):CallP aa 83 [slL d (kn2 d x y) C,.boxp (.agg [ratL a,ratL b])] (slL d (kn2 d a b) (cutQ d x y C a b)):=by
 have gW:=pure_lst ratE 3 (kn2 d x y);have hpq:=pure_lst q4E 12 C;have kE:=(slE d (kn2 d x y)).pure C;have dC:=(slE d (kn2 d a b)).pure (cutQ d x y C a b);have hCu:CallP aa 84 [slL d (kn2 d x y) C,ratL a,ratL b] (slL d (kn2 d a b) (cutQ d x y C a b)):=c_SpCutB d x y a b C R h1 h6 pj aW cU hx hy ha hb hC cQ hR eD;refine fnP Tryz.func83 (ht:=(fun g=>LV.ren_pure g _ ((slE _ _).pure _))) ?_;refine zg8 ?_;refine st_pure rfl (.loadE rfl rfl rfl rfl rfl (at_all rfl rfl) T155) ?_;refine zg4 ?_;refine st_callP rfl (.cons (.pure kE) (.cons im0 (.cons im0 .nil))) (hCu) ?_;refine zg4 ?_;exact retC [] rfl rfl rfl rfl (at_all rfl rfl) T155 (.pure dC)
open H_c_CutG1 in
theorem c_CutG2 (d:Nat) (x y a b:Rat) (C:List Q4) (R:Nat) (h1:1<=d) (h6:d<=6) (pj:x<=a) (aW:a<b) (cU:b<=y) (hx:rl x<=64) (hy:rl y<=64) (ha:rl a<=64) (hb:rl b<=64) (hC:C.length=d+1) (cQ:1<=R) (hR:R<=10000000) (eD:∀ q∈C,bd4 R q):CallP aa 86 [slL d (kn2 d x y) C,.boxp (.agg [ratL a,ratL b])] (slL d (kn2 d a b) (cutQ d x y C a b)):=by
 have gW:=pure_lst ratE 3 (kn2 d x y);have hpq:=pure_lst q4E 12 C;have kE:=(slE d (kn2 d x y)).pure C;have dC:=(slE d (kn2 d a b)).pure (cutQ d x y C a b);have hCu:CallP aa 84 [slL d (kn2 d x y) C,ratL a,ratL b] (slL d (kn2 d a b) (cutQ d x y C a b)):=c_SpCutB d x y a b C R h1 h6 pj aW cU hx hy ha hb hC cQ hR eD;refine fnP Tryz.func86 (ht:=(fun g=>LV.ren_pure g _ ((slE _ _).pure _))) ?_;refine zg8 ?_;refine st_pure rfl (.loadE rfl rfl rfl rfl rfl (at_all rfl rfl) T155) ?_;refine zg4 ?_;refine st_callP rfl (.cons (.pure kE) (.cons im0 (.cons im0 .nil))) (hCu) ?_;refine zg4 ?_;exact retC [] rfl rfl rfl rfl (at_all rfl rfl) T155 (.pure dC)
def ctS (U V:Nat) (ua ub va vb:Rat) (rows:List (List PoR)) (a b c e:Rat):List (List PoR):=inC (fun C=>cutQ V va vb C c e) U (inC (fun C=>cutQ U ua ub C a b) V rows)
theorem cutQ_len (d:Nat) (x y:Rat) (C:List Q4) (a b:Rat):(cutQ d x y C a b).length=d+1:=by simp [cutQ]
theorem hoC_bd {R U V:Nat} {rows:List (List PoR)} (h:pf R U V rows):∀ C∈hoC V rows,C.length=U+1/\∀ q∈C,bd4 (2*R) q:=fun C hC=>by
 obtain⟨j,hj,rfl⟩:∃ j,j<V+1/\C=(rows.map fun r=>r.getD j default).map hoQ:=by
  obtain⟨j,hj,e⟩:=mP hC;rw [hoC_len] at hj;refine⟨j,hj,?_⟩;have:=hoC_at rows hj;rw [aB (by rw [hoC_len];exact hj)] at this;rw [<-e];exact adU this
 refine⟨by rw [aA,aA,h.n],fun q hq=>?_⟩;obtain⟨p,hp,rfl⟩:=bS.1 hq;exact hoQ_bd (col_ok h hj p hp)
namespace H_c_sCutG
theorem zSm {p q:Prop} (k:q) (e:p=q:=by simp only [sNF,ar,au,aq,fy0,fyc,ae7,prL_kill,kills_map prE,dfr,dfq,bA,aQ,bc,aR,bh,aZ,aS,aN,aK,aO,reduceIte,if_true,if_false,aX,LV.kill,kills];exact rfl):p:=e.mpr k
end H_c_sCutG
open H_c_sCutG in
theorem c_sCutG (R R1 R2 R4 R5 U V:Nat) (ua ub va vb a b c e:Rat) (rows:List (List PoR)) (h:pf R U V rows) (hR:R<=64) (hu:ua<ub) (hv:va<vb) (h1:rl ua<=64) (h2:rl ub<=64) (h3:rl va<=64) (h4:rl vb<=64) (aW:a<b) (hce:c<e) (nG:ua<=a) (wZ:b<=ub) (qA:va<=c) (bl:e<=vb) (z1:rl a<=64) (z2:rl b<=64) (z3:rl c<=64) (z4:rl e<=64) (cQ:R1<=200000) (hR2:R2<=200000) (zG:R4<=1000000000) (hR5:R5<=1000000000) (eH:∀ C∈hoC V rows,∀ q∈cutQ U ua ub C a b,bd4 R4 q/\0<q.w) (dx:pf R1 V U (inC (fun C=>cutQ U ua ub C a b) V rows)) (lh:∀ C∈hoC U (inC (fun C=>cutQ U ua ub C a b) V rows),∀ q∈cutQ V va vb C c e,bd4 R5 q/\0<q.w) (kJ:pf R2 U V (inC (fun C=>cutQ V va vb C c e) U (inC (fun C=>cutQ U ua ub C a b) V rows))):CallP aa 36 [.agg [nI64 U,nI64 V,.list 3 ((kn2 U ua ub).map ratL),.list 3 ((kn2 V va vb).map ratL),.list 1 (rows.map prL)],spL (a,b),spL (c,e)] (.tup [.agg [nI64 U,nI64 V,.list 3 ((kn2 U a b).map ratL),.list 3 ((kn2 V c e).map ratL),.list 1 ((inC (fun C=>cutQ V va vb C c e) U (inC (fun C=>cutQ U ua ub C a b) V rows)).map prL)],iL 0]):=by
 have jT:LV.pure (.agg [nI64 U,nI64 V,.list 3 ((kn2 U ua ub).map ratL),.list 3 ((kn2 V va vb).map ratL),.list 1 (rows.map prL)])=true:=bH;have jX:LV.pure (.agg [nI64 U,nI64 V,.list 3 ((kn2 U a b).map ratL),.list 3 ((kn2 V va vb).map ratL),.list 1 ((swR U (inC (fun C=>cutQ U ua ub C a b) V rows)).map prL)])=true:=bH;have tj:LV.pure (.agg [nI64 V,nI64 U,.list 3 ((kn2 V va vb).map ratL),.list 3 ((kn2 U a b).map ratL),.list 1 ((inC (fun C=>cutQ U ua ub C a b) V rows).map prL)])=true:=bH;have hq3:LV.pure (.agg [nI64 V,nI64 U,.list 3 ((kn2 V c e).map ratL),.list 3 ((kn2 U a b).map ratL),.list 1 ((swR V (inC (fun C=>cutQ V va vb C c e) U (inC (fun C=>cutQ U ua ub C a b) V rows))).map prL)])=true:=bH;have hq4:LV.pure (.agg [nI64 U,nI64 V,.list 3 ((kn2 U a b).map ratL),.list 3 ((kn2 V c e).map ratL),.list 1 ((inC (fun C=>cutQ V va vb C c e) U (inC (fun C=>cutQ U ua ub C a b) V rows)).map prL)])=true:=bH;have jx:=h.u1;have eC:=h.u3;have kI:=h.v1;have fj:=h.v3;have bG:=h.r1;have iE:=kn2_len U ua ub;have fg:=kn2_len V va vb;have aiE:=kn2_len U a b;have ah8:=kn2_len V c e;have jr:=h.n;have hDo:=c_PDom U V ua ub va vb rows J J J J hu hv J J;have hSd:=c_Ssnd U V (kn2 U ua ub) (kn2 V va vb) rows (kn2_ok jx J hu h1 h2) (kn2_ok kI J hv h3 h4) J (fun r hr=>by rw [h.m r hr,fg];omega) (fun r hr q hq=>(h.ok r hr q hq).le hR)
 have rW:=c_SwitG a b ua ub J J J J aW nG wZ;have qq:=c_SwitG c e va vb J J J J hce qA bl;have mR:CallP aa 82 [.agg [nI64 U,nI64 V,.list 3 ((kn2 U ua ub).map ratL),.list 3 ((kn2 V va vb).map ratL),.list 1 (rows.map prL)],.clo 83 [.boxp (.agg [ratL a,ratL b])]] (.agg [nI64 U,nI64 V,.list 3 ((kn2 U a b).map ratL),.list 3 ((kn2 V va vb).map ratL),.list 1 ((swR U (inC (fun C=>cutQ U ua ub C a b) V rows)).map prL)]):=c_inUG R U V (kn2 U ua ub) (kn2 V va vb) rows h lj lj lj (kn2_rl J J) (kn2_rl J J) J 83 [.boxp (.agg [ratL a,ratL b])] (by simp [pures,LV.pure,ratE.pure]) (fun x hx=>by rw [bD.1 hx];exact⟨rfl,rfl⟩) (kn2 U a b) lj lj (kn2_rl J J) (fun C=>cutQ U ua ub C a b) R1 R4 zG (fun C hC=>c_CutG1 U ua ub a b C (2*R) jx J nG aW wZ h1 h2 z1 z2 (hoC_bd h C hC).1 J J (hoC_bd h C hC).2) (fun C hC=>cutQ_len _ _ _ _ _ _) eH dx;have hX:=swR_pf dx;have ain:=dx.r1;have iz:=c_sSwap R1 U V (kn2 U a b) (kn2 V va vb) (swR U (inC (fun C=>cutQ U ua ub C a b) V rows)) hX J J (kn2_rl J J) (kn2_rl J J) J;rw [swR_swR dx] at iz
 have sr:CallP aa 82 [.agg [nI64 V,nI64 U,.list 3 ((kn2 V va vb).map ratL),.list 3 ((kn2 U a b).map ratL),.list 1 ((inC (fun C=>cutQ U ua ub C a b) V rows).map prL)],.clo 86 [.boxp (.agg [ratL c,ratL e])]] (.agg [nI64 V,nI64 U,.list 3 ((kn2 V c e).map ratL),.list 3 ((kn2 U a b).map ratL),.list 1 ((swR V (inC (fun C=>cutQ V va vb C c e) U (inC (fun C=>cutQ U ua ub C a b) V rows))).map prL)]):=c_inUG R1 V U (kn2 V va vb) (kn2 U a b) (inC (fun C=>cutQ U ua ub C a b) V rows) dx lj lj lj (kn2_rl J J) (kn2_rl J J) J 86 [.boxp (.agg [ratL c,ratL e])] (by simp [pures,LV.pure,ratE.pure]) (fun x hx=>by rw [bD.1 hx];exact⟨rfl,rfl⟩) (kn2 V c e) lj lj (kn2_rl J J) (fun C=>cutQ V va vb C c e) R2 R5 hR5 (fun C hC=>c_CutG2 V va vb c e C (2*R1) kI J qA hce bl h3 h4 z3 z4 (hoC_bd dx C hC).1 J J (hoC_bd dx C hC).2) (fun C hC=>cutQ_len _ _ _ _ _ _) lh kJ;have hY:=swR_pf kJ;have mW:=c_sSwap R2 V U (kn2 V c e) (kn2 U a b) (swR V (inC (fun C=>cutQ V va vb C c e) U (inC (fun C=>cutQ U ua ub C a b) V rows))) hY J J (kn2_rl J J) (kn2_rl J J) J;rw [swR_swR kJ] at mW;have ae7:True:=trivial;refine fnP Tryz.func36 (ht:=(tame2 bH rfl)) ?_;refine zg12 ?_;refine cp am1 (hDo) ?_;refine zg13 ?_;refine cp am1 (hSd) ?_;refine zg2 ?_;refine st_pure jz ldA ?_;refine st_pure jz ldA ?_
 refine st_callP jz (.cons im0 (.cons im0 .nil)) (rW) ?_;refine st_pure jz (.not rfl) ?_;refine st_pure rfl (.pickF rfl ((rfl))) ?_;refine zg1 ?_;refine st_pure jz ldA ?_;refine st_pure jz ldA ?_;refine st_callP jz (.cons im0 (.cons im0 .nil)) (qq) ?_;refine st_pure jz (.not rfl) ?_;refine st_pure rfl (.pickF rfl ((rfl))) ?_;refine zg2 ?_;refine wl_condY (b:=_) rfl (rfl) ?_;refine zg3 ?_;refine wl_regW (Weak.cell (x:=spL (a,b)) (y:=.agg [ratL a,ratL b]) 4 rfl (fun Z μ w cs h=>by rw [<-spu];exact h)) ?_;refine zSm ?_;refine zg1 ?_;refine st_opc [4] rfl rfl (.mk (caps:=[.boxp (.agg [ratL a,ratL b])]) (.cons (.eptr rfl rfl rfl cs (at_all cs rfl) pu rfl) .nil) (fun x hx=>by rw [bD.1 hx];exact⟨rfl,rfl⟩)) rfl ?_;refine st_callP rfl (.cons (.pure jT) (.cons (.pure (show LV.pure (.clo 83 [.boxp (.agg [ratL a,ratL b])])=true by simp [LV.pure,pures,ratE.pure])) .nil)) (mR) ?_;refine zg4 ?_;refine wl_regW (Weak.cell (x:=spL (c,e)) (y:=.agg [ratL c,ratL e]) 5 rfl (fun Z μ w cs h=>by rw [<-spu];exact h)) ?_;refine zSm ?_;refine zg1 ?_;refine cp am1 (iz) ?_;refine st_opc [5] rfl rfl (.mk (caps:=[.boxp (.agg [ratL c,ratL e])]) (.cons (.eptr rfl rfl rfl cs (at_all cs rfl) pu rfl) .nil) (fun x hx=>by rw [bD.1 hx];exact⟨rfl,rfl⟩)) rfl ?_
 refine st_callP rfl (.cons (.pure tj) (.cons (.pure (show LV.pure (.clo 86 [.boxp (.agg [ratL c,ratL e])])=true by simp [LV.pure,pures,ratE.pure])) .nil)) (sr) ?_;refine cp am1 (mW) ?_;refine zg5 ?_;exact retCT [] rfl rfl rfl cs (at_all cs rfl) T29 (.pure hq4) rfl (.pure rfl)
def cdQ (D N:Nat) (x:Rat):Prop:=∃ z:Int,x*((D:Int):Rat)=(z:Rat)/\z.natAbs<=N
theorem castN (m n:Nat):(((m*n:Nat):Int):Rat)=((m:Int):Rat)*((n:Int):Rat):=by push_cast;rfl
theorem posN {D:Nat} (h:0<D):(0:Rat)<((D:Int):Rat):=Rat.intCast_pos.2 J
theorem cdQ.rl {D N k:Nat} {x:Rat} (h:cdQ D N x) (hD:0<D) (hN:N<4294967296 ^ k) (a6:D<4294967296 ^ k) (hk:1<=k):Go.Lg.rl x<=k:=by
 obtain⟨z,e,hz⟩:=h;have hp:=posN hD;have:x=(z:Rat)/((D:Int):Rat):=by rw [<-e,mc ay]
 rw [this,<-qv_ints];have:=rl_qv (k:=k) (decide (z<0) != decide ((D:Int)<0)) (n:=z.natAbs) (d:=(D:Int).natAbs) J (by simpa using a6);omega
theorem cdQ.div {D N k:Nat} {x y:Rat} (h:cdQ D N x) (g:cdQ D N y) (hD:0<D) (hN:N<4294967296 ^ k) (hk:1<=k):Go.Lg.rl (x/y)<=k:=by
 obtain⟨z,e,hz⟩:=h;obtain⟨u,f,hu⟩:=g;have hp:=posN hD;have:x/y=(z:Rat)/(u:Rat):=by
  rw [<-e,<-f];by_cases hy:y=0
  ·subst hy;rw [Rat.zero_mul,cj,cj];simp
  have h1:y*((D:Int):Rat)≠0:=by
   intro e0;rcases Rat.mul_eq_zero.1 e0 with e1 | e1
   ·exact hy e1
   grind
  have h2:x/y*y=x:=gz hy;have h3:x*((D:Int):Rat)/(y*((D:Int):Rat))*(y*((D:Int):Rat))=x*((D:Int):Rat):=gz h1;have h4:x/y*(y*((D:Int):Rat))=x*((D:Int):Rat):=by rw [<-Rat.mul_assoc,h2]
  have h5:x/y=x*((D:Int):Rat)/(y*((D:Int):Rat)):=by rw [<-h4,mc h1]
  exact h5
 rw [this,<-qv_ints];have:=rl_qv (k:=k) (decide (z<0) != decide (u<0)) (n:=z.natAbs) (d:=u.natAbs) J J;omega
def uQ (E:Nat) (x:Rat):Prop:=∃ α β:Nat,x*((E:Int):Rat)=((α:Int):Rat)/\(1-x)*((E:Int):Rat)=((β:Int):Rat)
theorem uQ.sum {E:Nat} {x:Rat} {α β:Nat} (h1:x*((E:Int):Rat)=((α:Int):Rat)) (h2:(1-x)*((E:Int):Rat)=((β:Int):Rat)):α+β=E:=by
 have:(((α+β:Nat):Int):Rat)=((E:Int):Rat):=by
  push_cast;push_cast at h1 h2;rw [<-h1,<-h2];grind
 have:=Rat.intCast_inj.1 this;omega
theorem uQ_dy {n:Nat} {x:Rat} (h:dyQ n x) (h0:0<=x) (h1:x<=1):uQ (2 ^ n) x:=by
 obtain⟨z,e⟩:=h.mul;have hp:=two_pos n;have m0:=cO h0 (dp hp);have m1:=cO (show 0<=1-x by grind) (dp hp);have e2:(1-x)*(((2 ^ n:Nat):Int):Rat)=((((2 ^ n:Nat):Int)-z:Int):Rat):=by
  push_cast;push_cast at e;rw [<-e];grind
 rw [e] at m0;rw [e2] at m1;have z0:0<=z:=rq.1 m0;have z1:0<=((2 ^ n:Nat):Int)-z:=rq.1 m1;refine⟨z.toNat,(((2 ^ n:Nat):Int)-z).toNat,?_,?_⟩
 ·rw [qe z0];exact e
 rw [qe z1];exact e2
theorem fE_cd {a:Rat} {E:Nat} (ha:uQ E a):∀ (n:Nat) {D N:Nat} (f:Nat->Rat),(∀ i,i<=n->cdQ D N (f i))->cdQ (D*E ^ n) (N*E ^ n) (fE (1-a) a n f)
 | 0,D,N,f,h=>by
  have:=h 0 (an _);simpa [fE] using this
 | n+1,D,N,f,h=>by
  rw [fE,Nat.pow_succ,bz (E ^ n) E,<-bW,<-bW];refine fE_cd ha n _ fun i hi=>?_;obtain⟨α,β,e1,e2⟩:=ha;have es:=uQ.sum e1 e2;obtain⟨z,f1,g1⟩:=h i J;obtain⟨u,f2,g2⟩:=h (i+1) J;refine⟨(β:Int)*z+(α:Int)*u,?_,?_⟩
  ·rw [castN,Rat.intCast_add,lI,lI,<-e1,<-e2,<-f1,<-f2];grind
  have h1:=Int.natAbs_add_le ((β:Int)*z) ((α:Int)*u);rw [ur,ur,aer,aer] at h1;have h2:=fx β g1;have h3:=fx α g2;have h4:N*E=β*N+α*N:=by rw [<-es,bz,Nat.add_mul,Nat.add_comm]
  omega
theorem pc_cd {a b:Rat} {E:Nat} (ha:uQ E a) (hb:uQ E b) {n j D N:Nat} (hj:j<=n) {f:Nat->Rat} (h:∀ i,i<=n->cdQ D N (f i)):cdQ (D*E ^ n) (N*E ^ n) (pcV a b n f j):=by
 have h1:∀ m,m<=n-j->cdQ (D*E ^ j) (N*E ^ j) (sI b j f m):=fun m hm=>by
  rw [sI_fE];exact fE_cd hb j _ fun i hi=>h _ J
 unfold pcV;rw [sI_fE];have:=fE_cd ha (n-j) (fun i=>sI b j f (0+i)) fun i hi=>h1 (0+i) J;rw [bW,bW,<-Nat.pow_add,Nat.add_sub_cancel' hj] at this;exact this
structure cvC (po:List PoR) (d D N:Nat):Prop where
 n:∀ k i,i<=d->cdQ D N ((nmP po k).getD i 0)
 w:∀ i,i<=d->cdQ D N ((wtP po).getD i 0)
def sG (F:Rat->Rat) (args:List Rat):Nat->(Nat->Rat)->(Nat->Rat)
 | 0,f=>f
 | r+1,f=>sS (F (args.getD r 0)) (sG F args r f)
theorem bfi_sG {F:Rat->Rat} {args v:List Rat}:∀ (r i:Nat),r<=i->i<v.length->(bfi F args v r).getD i 0=sG F args r (fun i=>v.getD i 0) (i-r)
 | 0,i,_,_=>rfl
 | r+1,i,h,hi=>by
  rw [bfi,bsj_get _ _ _ _ (by rw [bfi_len];exact hi),if_pos J,bfi_sG r i J hi,bfi_sG r (i-1) J J,sG];unfold sS;rw [show i-1-r=i-(r+1) by omega,show i-(r+1)+1=i-r by omega];grind
theorem sG_rep {F:Rat->Rat} {a b:Rat} {m n:Nat} {f:Nat->Rat}:sG F (ai m a++ai n b) (m+n) f=sI (F b) n (sI (F a) m f):=by
 have h1:∀ r,r<=m->sG F (ai m a++ai n b) r f=sI (F a) r f:=by
  intro r
  induction r with
  | zero=>intro _;rfl
  | succ r ih =>
   intro h;rw [sG,ih J,sI_succ,gD1 (by rw [mj];omega),getD_rep J]
 have h2:∀ k,k<=n->sG F (ai m a++ai n b) (m+k) f=sI (F b) k (sI (F a) m f):=by
  intro k
  induction k with
  | zero=>intro _;exact h1 m (an _)
  | succ k ih =>
   intro h;rw [<-fT,sG,ih J,sI_succ,gD2 aj,mj,getD_rep J]
 exact h2 n (an _)
theorem blo_pc {d j:Nat} {x y a b:Rat} {v:List Rat} (hv:v.length=d+1) (hj:j<=d):blo d x y v (ai (d-j) a++ai j b)=pcV ((a-x)/(y-x)) ((b-x)/(y-x)) d (fun i=>v.getD i 0) j:=by
 unfold blo;rw [bfi_sG d d (an _) J,jy];have:=sG_rep (F:=fun t=>(t-x)/(y-x)) (a:=a) (b:=b) (m:=d-j) (n:=j) (f:=fun i=>v.getD i 0);rw [show d-j+j=d by omega] at this;rw [this,<-sI_I];rfl
def qc (q:Q4):Nat->Rat
 | 0=>q.x
 | 1=>q.y
 | 2=>q.z
 | _=>q.w
theorem qc_map (C:List Q4) (k i:Nat) (h:i<C.length):(C.map fun q=>qc q k).getD i 0=qc (C.getD i default) k:=by
 rw [ao,bU,ao,aB h];rfl
theorem cutQ_c {d:Nat} {x y a b:Rat} {C:List Q4} (hC:C.length=d+1) {j:Nat} (hj:j<=d) (k:Nat):qc ((cutQ d x y C a b).getD j default) k=pcV ((a-x)/(y-x)) ((b-x)/(y-x)) d (fun i=>qc (C.getD i default) k) j:=by
 have e:(cutQ d x y C a b).getD j default=pol d x y C (ai (d-j) a++ai j b):=by
  unfold cutQ;rw [ao,bU,vA J];rfl
 have key:∀ f:Q4->Rat,blo d x y (C.map f) (ai (d-j) a++ai j b)=pcV ((a-x)/(y-x)) ((b-x)/(y-x)) d (fun i=>(C.map f).getD i 0) j:=fun f=>blo_pc (by rw [aA,hC]) hj;have cg:∀ k,pcV ((a-x)/(y-x)) ((b-x)/(y-x)) d (fun i=>(C.map fun q=>qc q k).getD i 0) j=pcV ((a-x)/(y-x)) ((b-x)/(y-x)) d (fun i=>qc (C.getD i default) k) j:=fun k=>pc_congr hj fun i hi=>qc_map C k i J;rw [e,<-cg]
 match k with
 | 0=>exact key (·.x)
 | 1=>exact key (·.y)
 | 2=>exact key (·.z)
 | k+3=>exact key (·.w)
theorem hoQ_bkQ {q:Q4} (h:q.w≠0):hoQ (bkQ q)=q:=by
 obtain⟨x,y,z,w⟩:=q;have hw:w≠0:=h;have e:∀ t:Rat,w*(t/w)=t:=fun t=>by rw [iF];exact gz hw
 show (⟨w*(x/w),w*(y/w),w*(z/w),w⟩:Q4)=⟨x,y,z,w⟩;rw [e,e,e]
def pc4 (rows:List (List PoR)) (k i j:Nat):Rat:=qc (hoQ ((rows.getD i []).getD j default)) k
def pcT (U V:Nat) (s t:Sp) (c:Nat->Nat->Rat) (i j:Nat):Rat:=pcV t.1 t.2 V (fun j'=>pcV s.1 s.2 U (fun i'=>c i' j') i) j
structure svC (U V:Nat) (rows:List (List PoR)) (D N:Nat):Prop where
 n:rows.length=U+1
 m:∀ r∈rows,r.length=V+1
 c:∀ k i j,i<=U->j<=V->cdQ D N (pc4 rows k i j)
 w:∀ i j,i<=U->j<=V->0<pc4 rows 3 i j
theorem pol_mem {U V D N:Nat} {rows:List (List PoR)} (h:svC U V rows D N) {r:List PoR} (hr:r∈rows) {q:PoR} (hq:q∈r):∃ i j,i<=U/\j<=V/\(rows.getD i []).getD j default=q:=by
 obtain⟨i,hi,rfl⟩:=mP hr;obtain⟨j,hj,rfl⟩:=mP hq;have h1:=h.n;have h2:=h.m _ hr;refine⟨i,j,J,J,?_⟩;rw [ao,ao,aB hi,iY,aB hj];rfl
theorem svC.ok {U V D N k:Nat} {rows:List (List PoR)} (h:svC U V rows D N) (hD:0<D) (hN:N<4294967296 ^ k) (a6:D<4294967296 ^ k) (hk:1<=k):∀ r∈rows,∀ q∈r,okP k q:=fun r hr q hq=>by
 obtain⟨i,j,hi,hj,e⟩:=pol_mem h hr hq;have hc:=fun n=>h.c n i j hi hj;have hw:=h.w i j hi hj;unfold pc4 at hc hw;rw [e] at hc hw;have hw:0<q.w:=hw;have e1:∀ t:Rat,q.w*t/q.w=t:=fun t=>by rw [iF];exact mc ay
 refine⟨⟨?_,?_,?_⟩,(hc 3).rl hD hN a6 hk,hw⟩
 ·have:=(hc 0).div (hc 3) hD hN hk;exact(e1 q.p.x) ▸ this
 ·have:=(hc 1).div (hc 3) hD hN hk;exact(e1 q.p.y) ▸ this
 have:=(hc 2).div (hc 3) hD hN hk;exact(e1 q.p.z) ▸ this
theorem svC.pf {U V D N k:Nat} {rows:List (List PoR)} (h:svC U V rows D N) (hD:0<D) (hN:N<4294967296 ^ k) (a6:D<4294967296 ^ k) (hk:1<=k) (pw:k<=1000000) (u1:1<=U) (u3:U<=3) (v1:1<=V) (v3:V<=3):pf k U V rows :=
 ⟨hk,pw,u1,u3,v1,v3,h.n,h.m,h.ok hD hN a6 hk⟩
theorem col_getQ {U V D N:Nat} {rows:List (List PoR)} (h:svC U V rows D N) {i j:Nat} (hi:i<=U) (k:Nat):qc ((((rows.map fun r=>r.getD j default).map hoQ)).getD i default) k=pc4 rows k i j:=by
 have:=h.n;unfold pc4;rw [getD_mapP al,ao,bU,ao (l:=rows),aB J];rfl
theorem col_len {U V D N:Nat} {rows:List (List PoR)} (h:svC U V rows D N) (j:Nat):((rows.map fun r=>r.getD j default).map hoQ).length=U+1:=by simp [h.n]
theorem col_cut {U V D N E:Nat} {rows:List (List PoR)} (h:svC U V rows D N) {x y a b s t:Rat} (ea:(a-x)/(y-x)=s) (eb:(b-x)/(y-x)=t) (aT:0<=s) (dj:s<=1) (rz:0<=t) (iB:t<=1) (us:uQ E s) (ut:uQ E t) {i j:Nat} (hi:i<=U) (hj:j<=V) :
  (∀ k,qc ((cutQ U x y ((rows.map fun r=>r.getD j default).map hoQ) a b).getD i default) k=pcV s t U (fun i'=>pc4 rows k i' j) i)/\(∀ k,cdQ (D*E ^ U) (N*E ^ U) (pcV s t U (fun i'=>pc4 rows k i' j) i))/\0<pcV s t U (fun i'=>pc4 rows 3 i' j) i:=by
 refine⟨fun k=>?_,fun k=>pc_cd us ut hi fun i' fv=>h.c k i' j fv hj,pc_pos aT dj rz iB hi fun i' fv=>h.w i' j fv hj⟩;rw [cutQ_c (col_len h j) hi k,ea,eb];exact pc_congr hi fun i' fv=>col_getQ h fv k
theorem inC_sv {U V D N E:Nat} {rows:List (List PoR)} (h:svC U V rows D N) {x y a b s t:Rat} (ea:(a-x)/(y-x)=s) (eb:(b-x)/(y-x)=t) (aT:0<=s) (dj:s<=1) (rz:0<=t) (iB:t<=1) (us:uQ E s) (ut:uQ E t) :
  svC V U (inC (fun C=>cutQ U x y C a b) V rows) (D*E ^ U) (N*E ^ U)/\∀ k i j,i<=U->j<=V->pc4 (inC (fun C=>cutQ U x y C a b) V rows) k j i=pcV s t U (fun i'=>pc4 rows k i' j) i:=by
 have xu:∀ j,j<=V->(inC (fun C=>cutQ U x y C a b) V rows).getD j []=(cutQ U x y ((rows.map fun r=>r.getD j default).map hoQ) a b).map bkQ:=fun j hj=>by
  rw [inC,ao,bU,hoC_at rows J];rfl
 have aaQ:∀ k i j,i<=U->j<=V->pc4 (inC (fun C=>cutQ U x y C a b) V rows) k j i=pcV s t U (fun i'=>pc4 rows k i' j) i:=fun k i j hi hj=>by
  obtain⟨c1,c2,c3⟩:=col_cut h ea eb aT dj rz iB us ut hi hj;have hw:0<((cutQ U x y ((rows.map fun r=>r.getD j default).map hoQ) a b).getD i default).w:=by
   have:=c1 3;rw [<-this] at c3;exact c3
  unfold pc4;rw [xu j hj,getD_mapB (by rw [cutQ_len];omega),hoQ_bkQ ay,c1];rfl
 refine⟨⟨inC_len _ _ _,fun r hr=>?_,fun k j i hj hi=>?_,fun j i hj hi=>?_⟩,aaQ⟩
 ·obtain⟨C,_,rfl⟩:=bS.1 hr;rw [aA,cutQ_len]
 ·rw [aaQ k i j hi hj];exact(col_cut h ea eb aT dj rz iB us ut hi hj).2.1 k
 rw [aaQ 3 i j hi hj];exact(col_cut h ea eb aT dj rz iB us ut hi hj).2.2
theorem hoC_cut {U V D N E k:Nat} {rows:List (List PoR)} (h:svC U V rows D N) {x y a b s t:Rat} (ea:(a-x)/(y-x)=s) (eb:(b-x)/(y-x)=t) (aT:0<=s) (dj:s<=1) (rz:0<=t) (iB:t<=1) (us:uQ E s) (ut:uQ E t)
  (hD:0<D*E ^ U) (hN:N*E ^ U<4294967296 ^ k) (a6:D*E ^ U<4294967296 ^ k) (hk:1<=k):∀ C∈hoC V rows,∀ q∈cutQ U x y C a b,bd4 k q/\0<q.w:=fun C hC q hq=>by
 obtain⟨j,hj,e⟩:=mP hC;rw [hoC_len] at hj;have hCj:C=(rows.map fun r=>r.getD j default).map hoQ:=by
  have:=hoC_at rows hj;rw [aB (by rw [hoC_len];exact hj)] at this;rw [<-e];exact adU this
 subst hCj;obtain⟨i,hi,rfl⟩:=mP hq;have hi2:=hi;rw [cutQ_len] at hi2;obtain⟨c1,c2,c3⟩:=col_cut h (i:=i) (j:=j) ea eb aT dj rz iB us ut J J;have eg:(cutQ U x y ((rows.map fun r=>r.getD j default).map hoQ) a b).getD i default=(cutQ U x y ((rows.map fun r=>r.getD j default).map hoQ) a b)[i]:=by
  rw [ao,aB hi];rfl
 rw [eg] at c1;have r:∀ k',Go.Lg.rl (qc (cutQ U x y ((rows.map fun r=>r.getD j default).map hoQ) a b)[i] k')<=k:=fun k'=>by
  rw [c1];exact(c2 k').rl hD hN a6 hk
 refine⟨⟨r 0,r 1,r 2,r 3⟩,?_⟩;have:=c1 3;rw [<-this] at c3;exact c3
theorem c_sCutV {U V D N E k:Nat} {rows:List (List PoR)} (h:svC U V rows D N) (hE:0<E) (hD:0<D) (u1:1<=U) (u3:U<=3) (v1:1<=V) (v3:V<=3) {ua ub va vb a b c e s t s' t':Rat} (hu:ua<ub) (hv:va<vb) (h1:rl ua<=64) (h2:rl ub<=64) (h3:rl va<=64) (h4:rl vb<=64) (aW:a<b) (hce:c<e) (nG:ua<=a) (wZ:b<=ub) (qA:va<=c) (bl:e<=vb)
  (z1:rl a<=64) (z2:rl b<=64) (z3:rl c<=64) (z4:rl e<=64) (ea:(a-ua)/(ub-ua)=s) (eb:(b-ua)/(ub-ua)=t) (ec:(c-va)/(vb-va)=s') (ee:(e-va)/(vb-va)=t') (hs:0<=s/\s<=1) (ht:0<=t/\t<=1) (cH:0<=s'/\s'<=1) (xt:0<=t'/\t'<=1) (us:uQ E s) (ut:uQ E t) (us':uQ E s') (ut':uQ E t')
  (hN:N*E ^ U*E ^ V<4294967296 ^ k) (a6:D*E ^ U*E ^ V<4294967296 ^ k) (hk:1<=k) (pw:k<=64) :
  CallP aa 36 [.agg [nI64 U,nI64 V,.list 3 ((kn2 U ua ub).map ratL),.list 3 ((kn2 V va vb).map ratL),.list 1 (rows.map prL)],spL (a,b),spL (c,e)] (.tup [.agg [nI64 U,nI64 V,.list 3 ((kn2 U a b).map ratL),.list 3 ((kn2 V c e).map ratL),.list 1 ((ctS U V ua ub va vb rows a b c e).map prL)],iL 0])/\svC U V (ctS U V ua ub va vb rows a b c e) (D*E ^ U*E ^ V) (N*E ^ U*E ^ V)/\∀ n i j,i<=U->j<=V->pc4 (ctS U V ua ub va vb rows a b c e) n i j=pcT U V (s,t) (s',t') (pc4 rows n) i j:=by
 have pU:0<E ^ U:=dU hE;have pV:0<E ^ V:=dU hE;have le1:∀ x,x<=x*E ^ U:=fun x=>mq x pU;have le2:∀ x,x<=x*E ^ V:=fun x=>mq x pV;have n1:=le1 N;have n2:=le2 (N*E ^ U);have d1:=le1 D;have d2:=le2 (D*E ^ U);obtain⟨g,gx⟩:=inC_sv h ea eb hs.1 hs.2 ht.1 ht.2 us ut;obtain⟨g2,gy⟩:=inC_sv g ec ee cH.1 cH.2 xt.1 xt.2 us' ut';have mz:0<D*E ^ U:=eN hD pU;have lV:0<D*E ^ U*E ^ V:=eN mz pV;refine⟨?_,g2,fun n i j hi hj=>?_⟩
 ·exact c_sCutG k k k k k U V ua ub va vb a b c e rows (h.pf hD J J hk J u1 u3 v1 v3) pw hu hv h1 h2 h3 h4 aW hce nG wZ qA bl z1 z2 z3 z4 J J J J
   (hoC_cut h ea eb hs.1 hs.2 ht.1 ht.2 us ut mz J J hk) (g.pf mz J J hk J v1 v3 u1 u3) (hoC_cut g ec ee cH.1 cH.2 xt.1 xt.2 us' ut' lV hN a6 hk) (g2.pf lV hN a6 hk J u1 u3 v1 v3)
 show pc4 (inC _ U (inC _ V rows)) n i j=_;rw [gy n j i hj hi];exact pc_congr hj fun j' hj'=>gx n i j' hi hj'
section
variable {D W na:Nat} {lk:LookT} {x:BoxT} {st:List BoxT} {m:Nat} {cl:List CelT}
theorem muP_cons:muP D (x :: st)=wgt D x+muP D st:=by simp [muP]
theorem muP_half (hk:¬D<=x.2.1):muP D (loB x :: hiB x :: st)<muP D (x :: st):=by
 have:=wgt_half (x:=x) (s:=loS (x.1.getD (atB x) default)) (s':=hiS (x.1.getD (atB x) default)) (show x.2.1<D by omega);rw [muP_cons,muP_cons,muP_cons];unfold loB hiB;omega
theorem muP_len:∀ st:List BoxT,st.length<=muP D st
 | []=>az _
 | x :: st=>by
   have h1:=muP_len st;have h2:=wgt_pos D x;rw [muP_cons,aQ];omega
end
theorem stk_cons (x:BoxT) (st jk:List BoxT):(x :: st).reverse++jk=st.reverse++(x :: jk):=aj
theorem stk_get (x:BoxT) (st jk:List BoxT):(st.reverse.map boxL++(boxL x :: jk.map boxL))[st.length]?=some (boxL x):=by
 rw [List.getElem?_append_right aj];simp
theorem mpbx (l m:List BoxT):(l++m).map boxL=l.map boxL++m.map boxL:=su
theorem mpcl (l m:List CelT):(l++m).map celV=l.map celV++m.map celV:=su
theorem stk_take (st:List BoxT) (l:List LV):(st.reverse.map boxL++l).take st.length=st.reverse.map boxL:=by
 rw [aao aj,aH aj]
theorem retCN0 {P:Program} {L:St} {blk' b0:Blk} {bs:List Blk} {l:List (Nat × Blk)} {v:List LV} (hl:L.heap=hp l) (h0:hp l 0=some b0) (hb:blk'=⟨b0.sz,rens (ownNm [1]) b0.vals,b0.mt⟩) (qN:∀ c∈l.map (·.1),c≠0->c∈[1])
  (h1:hp l 1=some ⟨4,v,true⟩) (hv:pures v=true) (kF:bs=[⟨4,v,true⟩]):RetCN0 P [] L (.tup []) blk' bs:=by
 have hdm:∀ (l:List (Nat × Blk)) (c:Nat),hp l c≠none->c∈l.map (·.1):=fun l=>by
  induction l with
  | nil=>exact fun c h=>absurd rfl h
  | cons p t ih =>
   obtain⟨d,y⟩:=p;intro c h;by_cases e:c=d
   ·simp [e]
   have:iS c d=false:=by rw [<-so,te];exact e
   simp only [hp,this,cond_false] at h;simp only [gA,bp];exact .inr (ih c h)
 refine⟨[],[1],b0,by rw [hl];exact h0,hb,.nil,by simp,by simp,by simp,fun c hc hh=>qN c (hdm l c (by rwa [hl] at hh)) hc,fun k b hk=>?_,rfl⟩
 match k,hk with
 | 0,hk =>
  simp only [List.getElem?_cons_zero,bF] at hk;subst hk;exact⟨_,by rw [hl];exact h1,by rw [kF,rens_pure _ _ hv];rfl⟩
 | k+1,hk=>simp at hk
end Go.Proofs.YtlipjipfpkbppaaGreat
namespace Go.Lg
theorem Weak.cellIA {L:St} (b:Nat) (bs:List Nat) (h0:bs.contains 0=false) {sz:Nat} {x y:LV} {mt:Bool} (hb:(L.frz bs).heap b=some ⟨sz,[x],mt⟩) (hi:Imm (L.frz bs).heap x y):Weak L ((L.frz bs).setB b (some ⟨sz,[y],mt⟩)):=by
 rintro n W X Z0 a w ⟨bj,hsz,μ,Z,iI,hr⟩;obtain⟨Z',hc,hz⟩:=iI.widen (frz_le bs h0);refine⟨bj,hsz,μ,Z',?_,fun s=>RepV.mono hz (fun _ _ h=>h) (Frame.refl Z μ w) (hr s)⟩;have hs:∀ c,((L.frz bs).setB b (some ⟨sz,[y],mt⟩)).heap c=if c=b then some ⟨sz,[y],mt⟩ else(L.frz bs).heap c:=fun c=>rfl
 refine⟨hc.keep,hc.zone,hc.zsup,hc.zsub,hc.inj,hc.own,hc.x0,hc.xlt,hc.x1,fun c id blk g1 g2=>?_,fun c id blk g1 g2=>?_,fun c id g1=>?_⟩
 ·rw [hs] at g2;split at g2
  ·rename_i e;subst e;cases g2;exact hc.mutz c id ⟨sz,[x],mt⟩ g1 hb
  exact hc.mutz c id blk g1 g2
 ·rw [hs] at g2;split at g2
  ·rename_i e;subst e;cases g2;exact hc.frz c id ⟨sz,[x],mt⟩ g1 hb
  exact hc.frz c id blk g1 g2
 obtain⟨blk,k1,k2⟩:=hc.heap c id g1;rw [hs];by_cases e:c=b
 ·subst e;rw [if_pos rfl];rw [hb] at k1
  cases k1
  refine⟨_,rfl,?_⟩;obtain⟨cs,T,part,rest,e1,e2,e3⟩:=k2;refine⟨cs,T,part,rest,e1,e2,?_⟩;simp only [RepAll] at e3 ⊢;obtain⟨c1,c2,q1,q2,q3,q4⟩:=e3;exact⟨c1,c2,q1,q2,Imm.sound (av:=μ) hc hi q3,q4⟩
 rw [if_neg e];exact⟨blk,k1,k2⟩
end Go.Lg
namespace Go.Proofs.YtlipjipfpkbppaaGreat
open Go.Lg
theorem lit1V {P:Program} {ρ:Operand->LV} {T E:TypeId} {x:Operand} {d sz:Nat} {ag:Bool} {z v:LV} (hT:P.underlying T=some (.slice E)) (hz:ZeroOK P E z) (mZ:z.csize=sz) (jn:z.isAgg=ag) (hE:TyIs P E sz ag)
  (hx:ρ x=v) (qA:v.csize=sz) (k9:v.isAgg=ag) (hvp:v.pure=true) (hs:0<sz) (ck:sz<=1000):OpA P ρ d (.buildSlice T 1 #[(0,x)]) (.ref d sz 0 1) ⟨sz,[v],true⟩:=by
 have:=OpA.lit (P:=P) (ρ:=ρ) (d:=d) (T:=T) (n:=1) (ps:=#[(0,x)]) hT hz (by rw [jn];exact hE) mZ J J J (by
  intro p hp;simp only [bD] at hp;subst hp;refine⟨by simp,?_,by rw [hx];exact LV.pure_ne_any hvp,by rw [hx];exact LV.pure_ne_tup hvp⟩;simp [lay,hx,qA,k9,mZ,jn])
 simpa [buildL,hx,ai] using this
theorem lit1N {P:Program} {ρ:Operand->LV} {T E:TypeId} {x:Operand} {d sz:Nat} {ag:Bool} {z v:LV} (hT:P.underlying T=some (.slice E)) (hz:ZeroOK P E z) (mZ:z.csize=sz) (jn:z.isAgg=ag) (hE:TyIs P E sz ag)
  (hx:ρ x=v) (qA:v.csize=sz) (k9:v.isAgg=ag) (h1:v≠.any) (h2:∀ l,v≠.tup l) (hs:0<sz) (ck:sz<=1000):OpA P ρ d (.buildSlice T 1 #[(0,x)]) (.ref d sz 0 1) ⟨sz,[v],true⟩:=by
 have:=OpA.lit (P:=P) (ρ:=ρ) (d:=d) (T:=T) (n:=1) (ps:=#[(0,x)]) hT hz (by rw [jn];exact hE) mZ J J J (by
  intro p hp;simp only [bD] at hp;subst hp;refine⟨by simp,?_,by rw [hx];exact h1,by rw [hx];exact h2⟩;simp [lay,hx,qA,k9,mZ,jn])
 simpa [buildL,hx,ai] using this
abbrev CuT:=Nat × List Rat × List PoR
def cuL (c:CuT):LV:=.agg [nI64 c.1,.list 3 (c.2.1.map ratL),.list 12 (c.2.2.map poL)]
section
attribute [local irreducible] cuL
end
namespace H_c_sWide
theorem zSm {p q:Prop} (k:q) (e:p=q:=by simp only [sNF,ar,au,aq,aA,aN,aK,aO,reduceIte,if_true,if_false,aX,LV.kill,kills];exact rfl):p:=e.mpr k
end H_c_sWide
open H_c_sWide in
theorem c_sWide (l:List (Rat × Rat)) (wd:Rat) (hl:l.length<=1000) (hb:∀ s∈l,bdS 1000000 s) (fC:rl wd<=1000000):CallP aa 79 [.list 6 (l.map spL),ratL wd] (bL (wideB l wd)):=by
 refine fnP Tryz.func79 ?_;refine zg15 ?_;refine lp1 (fun(i:Nat) L=>(mS L [(3,⟨3,[ratL wd],true⟩)] [(9,nI64 i),(8,nI64 l.length),(7,.list 6 (l.map spL)),(3,.eptr 3 3 0 0)])) (fun i=>i<=l.length/\∀ j,j<i->¬wd<(l.getD j default).2-(l.getD j default).1) (fun i=>l.length-i) 0 ⟨az _,fun j h=>absurd h (acb _)⟩ ?_;rintro i L1 ⟨hi,fX⟩;refine zg6 ?_;refine wl_if rfl ?_ ?_<;>intro fB iN
 ·have hi2:i<l.length:=J;obtain⟨dj,oG⟩:=hb _ (memS hi2);have hw:=rl_sub (l.getD i default).2 (l.getD i default).1;refine zg13 ?_;refine wl_regD 5 ah ?_;refine zg1 ?_;refine cp am1 (c_SWidth (l.getD i default) J) ?_;refine zg1 ?_;refine cp am2 (c_RCmp ((l.getD i default).2-(l.getD i default).1) wd J) ?_;refine zg3 ?_;refine wl_if rfl ?_ ?_<;>intro ng kf
  ·have hR:wideB l wd=true:=by
    unfold wideB;rw [List.any_eq_true];exact⟨_,memS hi2,decide_eq_true (cmpR_pos.1 kf)⟩
   refine zg11 ?_;rw [hR];exact dS
  have afm:∀ j,j<i+1->¬wd<(l.getD j default).2-(l.getD j default).1:=fun j hj=>by
   rcases acB.1 hj with g | rfl
   ·exact fX j g
   exact fun e=>by have:=cmpR_pos.2 e;omega
  refine zg3 ?_;refine wl_regW (Weak.kill _ 6) ?_;refine bq ?_;exact nx1 (i+1) ⟨J,afm⟩
 obtain rfl:l.length=i:=J;have hR:wideB l wd=false:=by
  unfold wideB;rw [List.any_eq_false];intro s hs;obtain⟨j,hj,rfl⟩:=mP hs;have:=fX j hj;rw [ao,aB hj] at this;simpa using this
 refine zg11 ?_;rw [hR];exact dS
section
variable {D W na:Nat} {wd:Rat} {lk:LookT} {x:BoxT} {st:List BoxT} {m:Nat} {cl:List CelT}
theorem stw_work (h:W<=m):stepP D W na wd lk (x :: st,m,cl)=(st,m,cl++[celB na x (false,0,0)]):=by rw [stepP,if_pos h]
theorem stw_drop (h:¬W<=m) (hd:(lk (x.1.take na) (x.1.drop na)).1=true):stepP D W na wd lk (x :: st,m,cl)=(st,m+1,cl):=by rw [stepP,if_neg h,if_pos hd]
theorem stw_done (h:¬W<=m) (hd:(lk (x.1.take na) (x.1.drop na)).1=false) (hk:doneB D wd x (lk (x.1.take na) (x.1.drop na))=true) :
  stepP D W na wd lk (x :: st,m,cl)=(st,m+1,cl++[celB na x (lk (x.1.take na) (x.1.drop na))]):=by
 rw [stepP,if_neg h,if_neg (by rw [hd];decide),if_pos hk]
theorem stw_half (h:¬W<=m) (hd:(lk (x.1.take na) (x.1.drop na)).1=false) (hk:doneB D wd x (lk (x.1.take na) (x.1.drop na))=false) :
  stepP D W na wd lk (x :: st,m,cl)=(loB x :: hiB x :: st,m+1,cl):=by
 rw [stepP,if_neg h,if_neg (by rw [hd];decide),if_neg (by rw [hk];decide)]
theorem doneA {v:Bool × Nat × Nat} (hk:kindV v=3\/kindV v=4) (hw:sgnR wd=0):doneB D wd x v=true:=by
 unfold doneB;rw [decide_eq_true hk,decide_eq_true (sgnR_z hw)];rfl
theorem doneW {v:Bool × Nat × Nat} (hk:kindV v=3\/kindV v=4) (hw:wideB x.1 wd=false):doneB D wd x v=true:=by
 unfold doneB;rw [decide_eq_true hk,hw];simp
theorem doneC {v:Bool × Nat × Nat} (hk:D<=x.2.1):doneB D wd x v=true:=by
 unfold doneB;rw [decide_eq_true hk,Bool.or_true]
theorem doneN {v:Bool × Nat × Nat} (hk:¬(kindV v=3\/kindV v=4)) (hd:¬D<=x.2.1):doneB D wd x v=false:=by
 unfold doneB;rw [decide_eq_false hk,decide_eq_false hd];rfl
theorem doneM {v:Bool × Nat × Nat} (h0:¬sgnR wd=0) (hw:wideB x.1 wd=true) (hd:¬D<=x.2.1):doneB D wd x v=false:=by
 unfold doneB;rw [decide_eq_false (show ¬wd=0 from fun e=>h0 (by rw [e];rfl)),hw,decide_eq_false hd];simp
end
namespace H_c_PairW
theorem zSm {p q:Prop} (k:q) (e:p=q:=by simp only [sNF,ar,au,aq,kills_append,mpcl,htz,List.drop_zero,mpbx,stk_take,List.map_cons,List.reverse_cons,List.reverse_nil,List.append_assoc,List.singleton_append,celV,celB,u6,ac5,ekv,ekK,a9,edk,esc,ig,acP,htA,hrp,boxL,vdL,hAl,fy0,fyc,kills_map spE,kills_map i64E,kills_map boxE,kills_map celE,aA,List.length_append,List.length_replicate,xf,bA,aQ,bc,aR,bh,aZ,aS,aN,aK,aO,reduceIte,if_true,if_false,aX,LV.kill,kills];exact rfl):p:=e.mpr k
end H_c_PairW
open H_c_PairW in
theorem c_PairW (f na n D W:Nat) (cap:List LV) (lk:LookT) (I:BoxT->Prop) (hL:LookOK aa f cap D na n lk I) (bN:pures cap=true) (hcs:∀ x∈cap,x.csize=1/\x.isAgg=false) (A B:List Sp) (ry:A.length=na) (hA0:0<A.length) (lP:0<B.length) (hn:A.length+B.length=n) (uq:n<=10) (tG:I (A++B,0,ai n 0)) (wd:Rat) (fC:rl wd<=100) (n0:Nat) (cz:List CelT) (xq:D<=24) (hW9:W<=4096) (dE:n0<=4096) (ahN:cz.length<=100000000):CallOKC aa 34 ⟨7,[.agg [.agg [nI64 D,nI64 W,ratL wd],.ref 1 4 0 cz.length,nI64 n0]],true⟩ ⟨4,cz.map celV,true⟩ [.eptr 0 7 0 0,.list 6 (A.map spL),.list 6 (B.map spL),.clo f cap] (.tup []) ⟨7,[.agg [.agg [nI64 D,nI64 W,ratL wd],.ref 1 4 0 (endP D W na wd lk ([(A++B,0,ai n 0)],n0,cz)).2.2.length,nI64 (endP D W na wd lk ([(A++B,0,ai n 0)],n0,cz)).2.1]],true⟩ [⟨4,(endP D W na wd lk ([(A++B,0,ai n 0)],n0,cz)).2.2.map celV,true⟩]:=by
 have xX:=hL.sp _ tG;have hsA:∀ s∈A,bdS 1000000 s/\s.1<=s.2:=fun s hs=>⟨(xX s (vf _ hs)).1.le ae,(xX s (vf _ hs)).2⟩;have hsB:∀ s∈B,bdS 1000000 s/\s.1<=s.2:=fun s hs=>⟨(xX s (wj _ hs)).1.le ae,(xX s (wj _ hs)).2⟩;have hfA:=c_SpsCopO A hA0 J hsA;have hPB:=c_SpsCop B lP J hsB;have hpA:=pure_lst spE 6 A;have hpB:=pure_lst spE 6 B;have afk:=pure_lst spE 6 (A++B);have hAl:(A++B).length=n:=by rw [cZ];exact hn
 have htA:(A.map spL).take A.length=A.map spL:=aH aj;have xf:A.map spL++B.map spL=(A++B).map spL:=su.symm;have hrp:ai n (i64L 0)=(ai n (0:Int)).map i64L:=by rw [List.map_replicate]
 have hpz:pures ((ai n (0:Int)).map i64L)=true:=pures_map i64E _;have xp:=c_RSign wd J;have htz:((ai n (0:Int)).map i64L).take n=(ai n (0:Int)).map i64L:=aH aj;have afI:LV.pure (.clo f cap)=true:=by simpa [LV.pure] using bN
 have hE0:=endP_spec D W na wd lk ([(A++B,0,ai n 0)],n0,cz);have agH:muP D [(A++B,0,ai n 0)]<=100000000:=by
  have tQ:2 ^ (D-0)<=2 ^ 24:=Nat.pow_le_pow_right ae J;rw [muP_cons];show 2*2 ^ (D-0)-1+0<=_;omega
 refine fnC Tryz.func34 ?_;have u6:True:=trivial;have ac5:True:=trivial;have ekv:True:=trivial;have ekK:True:=trivial;have a9:True:=trivial;have edk:True:=trivial;have esc:True:=trivial;have ig:True:=trivial;have acP:True:=trivial;refine zg3 ?_;refine st_call1 [] rfl rfl (.cons (.pure hpA) .nil) hfA (pures_map spE _) rfl ?_;refine zg1 ?_;refine cp am1 (hPB) ?_;refine st_store rfl (.appX (d:=20) (news:=B.map spL) rfl rfl rfl rfl aj (.inr rfl) ae eT eT Z48s (by rw [spE.isAgg];exact T48) cs B48 (.inr (.inl rfl)) al al ae) ?_;refine zg4 ?_;refine wl_regW ((Weak.hand (t:=8) (b:=20) (l:=A++B) spE rfl rfl (by rw [cZ])).trans (Weak.refl _)) ?_
 try refine zSm ?_
 refine zg3 ?_
 try refine zSm ?_
 refine st_alloc rfl rfl (.makeM (n:=n) (m:=n) i64E Tryz.underlying22 (show ZeroOK _ _ (i64L 0) from Z3) T3 B3 rfl rfl J J J) ?_;refine zg1 ?_
 try refine zSm ?_
 refine st_alloc rfl rfl (lit1N (z:=boxL ([],0,[])) (v:=.agg [.list 6 ((A++B).map spL),iL 0,.ref 24 1 0 n]) aaC boxZ rfl rfl T146 rfl rfl rfl aj aj ae ae) ?_;refine zg4 ?_;refine wl_weak (((Weak.cellIA 26 [24] rfl rfl (.agg (.cons (.pure afk) (.cons (.pure rfl) (.cons (imm_ref rfl rfl hpz aj) .nil)))))).trans (Weak.kill _ 24)) ?_;refine lp4 (fun(st jk:List BoxT) (m:Nat) (cw:List CelT) L=>(mS L [(0,⟨7,[.agg [.agg [nI64 D,nI64 W,ratL wd],.ref 1 4 0 cw.length,nI64 m]],true⟩),(1,⟨4,cw.map celV,true⟩),(26,⟨3,(st.reverse++jk).map boxL,true⟩)] [(9,.ref 26 3 0 st.length),(3,.clo f cap),(1,.list 6 (A.map spL)),(0,.eptr 0 7 0 0)])) (fun st jk m cw=>EndP D W na wd lk (st,m,cw) (endP D W na wd lk ([(A++B,0,ai n 0)],n0,cz))/\(∀ x∈st,I x)/\m<=4096/\cw.length+muP D st<=200000000) (fun st jk m cw=>muP D st) ([(A++B,0,ai n 0)]) ([]) n0 cz ⟨hE0,fun y hy=>by rw [bD.1 hy];exact tG,dE,J⟩ ?_;rintro st jk m cw L1 ⟨hE,hI,hm9,hc9⟩;refine zg8 ?_;refine wl_if rfl ?_ ?_<;>intro pg nY
 ·obtain⟨x,st,rfl⟩:∃ x s,st=x :: s:=by
   cases st with
   | nil=>simp at nY
   | cons x s=>exact⟨x,s,rfl⟩
  have esc:=stk_cons x st jk;have qC:(x :: st).length=st.length+1:=rfl;have iD:=hI x aj;have uc:∀ y∈st,I y:=fun y hy=>hI y (by simp [hy]);have hlk:=hL.look x iD;have yA:=(hL.len x iD).1;have aG:=(hL.len x iD).2;have hdx:=hL.dep x iD;have ma:=hL.sp x iD;have mD:=hL.kd x iD;have hmw:=wgt_pos D x;have hmc:=muP_cons (D:=D) (x:=x) (st:=st);have tL:st.length+1<=muP D (x :: st):=muP_len (D:=D) (x :: st);have sZ:=hE.step;have u6:x.1.take A.length=x.1.take na:=by rw [ry]
  have ac5:x.1.drop A.length=x.1.drop na:=by rw [ry]
  have a9:(x.1.map spL).take A.length=(x.1.take na).map spL:=by rw [ry,lY]
  have edk:(x.1.map spL).drop A.length=(x.1.drop na).map spL:=by rw [ry,sD]
  have hPt:=c_SpsCop (x.1.take na) (by rw [bZ];omega) (by rw [bZ];omega) (fun s hs=>⟨(ma s (oM hs)).1.le ae,(ma s (oM hs)).2⟩);have hPd:=c_SpsCop (x.1.drop na) (by rw [fJ];omega) (by rw [fJ];omega) (fun s hs=>⟨(ma s (oH hs)).1.le ae,(ma s (oH hs)).2⟩);have abP:LV.pure (.agg [.list 6 ((x.1.take na).map spL),.list 6 ((x.1.drop na).map spL),nI64 1,nI64 0])=true:=celV_pure (x.1.take na,x.1.drop na,1,0);have acj:LV.pure (.agg [.list 6 ((x.1.take na).map spL),.list 6 ((x.1.drop na).map spL),nI64 (kindV (lk (x.1.take na) (x.1.drop na))),nI64 (kV (lk (x.1.take na) (x.1.drop na)))])=true:=celV_pure (x.1.take na,x.1.drop na,kindV (lk (x.1.take na) (x.1.drop na)),kV (lk (x.1.take na) (x.1.drop na)));have afo:pures [.agg [.list 6 ((x.1.take na).map spL),.list 6 ((x.1.drop na).map spL),nI64 1,nI64 0]]=true:=by simp only [pures,abP,aeg]
  have afz:pures [.agg [.list 6 ((x.1.take na).map spL),.list 6 ((x.1.drop na).map spL),nI64 (kindV (lk (x.1.take na) (x.1.drop na))),nI64 (kV (lk (x.1.take na) (x.1.drop na)))]]=true:=by simp only [pures,acj,aeg]
  have uU:=pure_lst spE 6 (x.1.take na);have hpd:=pure_lst spE 6 (x.1.drop na);have acP:(cw.map celV).take cw.length=cw.map celV:=aH aj;refine zg8 ?_;refine fG ?_
  try refine zSm ?_
  refine st_pure rfl (.idxR rfl aaC T146 rfl m9 m9) ?_
  try refine zSm ?_
  refine st_pure rfl (.loadE (b:=26) (sz:=3) (i:=st.length) (o:=0) (x:=boxL x) (r:=boxL x) (n:=3) (ag:=true) rfl rfl rfl (stk_get x st jk) (boxE.csize _) (at_all (boxE.csize _) rfl) T146) ?_;refine zg9 ?_;refine fG ?_;refine st_pure rfl (.sliceRh rfl aaC T146 rfl om om) ?_;refine zg4 ?_;refine wl_regD 14 ah ?_;refine zg4 ?_
  try refine zSm ?_
  refine st_pure rfl (by first | exact .sliceLh (h:=A.length) spE rfl eT T48 rfl om | exact .sliceRh rfl eT T48 rfl om om) ?_
  try refine zSm ?_
  refine cp am1 (hPt) ?_;refine zg4 ?_
  try refine zSm ?_
  refine st_pure rfl (.sliceLl (a:=A.length) spE rfl eT T48 rfl om) ?_
  try refine zSm ?_
  refine cp am1 (hPd) ?_;refine zg7 ?_;refine wl_regD 10 ah ?_;refine zg12 ?_;refine wl_if rfl ?_ ?_<;>intro aaX ck
  ·have rZ:W<=m:=J;refine zg1 ?_;refine wl_regF 7 [0] ah ?_;refine zg6 ?_
   try refine zSm ?_
   refine st_alloc rfl rfl (lit1V (z:=celV ([],[],0,0)) (v:=.agg [.list 6 ((x.1.take na).map spL),.list 6 ((x.1.drop na).map spL),nI64 1,nI64 0]) oB celZ rfl rfl T46 rfl rfl rfl abP ae ae) ?_;refine st_store rfl (.appX (d:=1) (news:=[.agg [.list 6 ((x.1.take na).map spL),.list 6 ((x.1.drop na).map spL),nI64 1,nI64 0]]) rfl rfl rfl rfl aj (.inl rfl) ae oB oB celZ T46 rfl B46 (.inl ⟨70,0,_,rfl,by decide,rfl,rfl,by simp,rfl,afo⟩) al al ae) ?_
   try refine zSm ?_
   refine zg2 ?_
   try refine zSm ?_
   refine zg7 ?_;exact nx4 st (x :: jk) m (cw++[celB na x (false,0,0)]) ⟨(stw_work (D:=D) (wd:=wd) rZ ▸ sZ),uc,hm9,afd⟩ (he:=((((Weak.kill _ 10).trans (Weak.kill _ 11)).trans (Weak.kill _ 70))).trans (Weak.of_eq (put_id' (put_id' (put_id' (put_id' (mk_id' ox) cl) cl) cl) cl)))
  have rZ:¬W<=m:=J;refine zg8 ?_;refine cG ?_;refine zg12 ?_
  try refine zSm ?_
  refine st_opc [] rfl rfl (.clo (f:=f) (cap:=cap) (args:=[.list 6 ((x.1.take na).map spL),.list 6 ((x.1.drop na).map spL)]) rfl (.cons (.pure uU) (.cons (.pure hpd) .nil)) ⟨bN,hcs⟩ hlk.1 ae (fun _ h=>by cases h)) (hlk.2 _) ?_;refine zg11 ?_;refine wl_if rfl ?_ ?_<;>intro af1 tJ
  ·refine zg4 ?_;exact nx4 st (x :: jk) (m+1) cw ⟨(stw_drop (D:=D) (wd:=wd) rZ tJ ▸ sZ),uc,J,J⟩ (he:=((((Weak.kill _ 10).trans (Weak.kill _ 11)).trans (Weak.kill _ 12))).trans (Weak.of_eq (put_id' (put_id' (put_id' (put_id' (mk_id' ox) cl) cl) cl) cl)))
  refine zg4 ?_;refine wl_regW (Weak.boxp (t:=12) (b:=12) rfl rfl rfl rfl rfl) ?_
  try refine zSm ?_
  refine zg5 ?_;refine wl_cut (fun L=>∃  (L1:St),(True)/\L=(mS L1 [(0,⟨7,[.agg [.agg [nI64 D,nI64 W,ratL wd],.ref 1 4 0 cw.length,nI64 (m+1)]],true⟩),(1,⟨4,cw.map celV,true⟩),(26,⟨3,(st.reverse++(x :: jk)).map boxL,true⟩),(10,⟨3,[.agg [.list 6 (x.1.map spL),nI64 x.2.1,.list 1 (x.2.2.map i64L)]],true⟩),(11,⟨4,[.agg [.list 6 ((x.1.take na).map spL),.list 6 ((x.1.drop na).map spL),nI64 (kindV (lk (x.1.take na) (x.1.drop na))),nI64 (kV (lk (x.1.take na) (x.1.drop na)))]],true⟩)] [(11,.eptr 11 4 0 0),(10,.eptr 10 3 0 0),(9,.ref 26 3 0 st.length),(3,.clo f cap),(1,.list 6 (A.map spL)),(0,.eptr 0 7 0 0)])) ?_ ?_
  ·refine wl_if rfl ?_ ?_<;>intro aio h91
   ·have ekv:kindV (lk (x.1.take na) (x.1.drop na))=(lk (x.1.take na) (x.1.drop na)).2.1:=if_neg J;have ekK:kV (lk (x.1.take na) (x.1.drop na))=(lk (x.1.take na) (x.1.drop na)).2.2:=if_neg J;refine wl_regA ?_;refine sM ?_;refine any_hoistC 2 rfl rfl ah (.pure faA) fmV fmA ?_;refine any_hoistC 3 rfl rfl ah (.pure ldA) fmV fmA ?_;refine any_1 4 _ ah rfl ?_;refine fQ ?_;refine any_1 5 _ ah rfl ?_;refine fQ ?_;refine any_1 6 _ ah rfl ?_;refine fQ ?_;refine any_1 7 _ ah rfl ?_;refine fQ ?_;refine any_0 ah ?_;refine zg1 ?_;exact k6
   have ekv:kindV (lk (x.1.take na) (x.1.drop na))=1:=if_pos J;have ekK:kV (lk (x.1.take na) (x.1.drop na))=0:=if_pos J;refine zg2 ?_;exact k6
  rintro _ ⟨ahR,-,rfl⟩;refine zg7 ?_;refine op_if 101 rfl ?_ ?_<;>intro air agW
  ·refine zg9 ?_;refine wl_regD 31 ah ?_;refine zg7 ?_;refine cp am1 (xp) ?_;refine zg2 ?_;refine op_if 115 rfl ?_ ?_<;>intro adR qV
   ·refine zg25 ?_;refine wl_regF 7 [0] ah ?_;refine zg6 ?_
    try refine zSm ?_
    refine rE ?_
    try refine zSm ?_
    refine zg2 ?_
    try refine zSm ?_
    refine zg7 ?_;exact rO
   refine zg7 ?_;refine cp am2 (c_sWide x.1 wd J (fun s hs=>(ma s hs).1.le ae) J) ?_;refine zg4 ?_;refine op_if 127 rfl ?_ ?_<;>intro afU sC
   ·refine zg13 ?_;refine wl_regF 7 [0] ah ?_;refine zg6 ?_
    try refine zSm ?_
    refine rE ?_
    try refine zSm ?_
    refine zg2 ?_
    try refine zSm ?_
    refine zg7 ?_;exact rO
   refine zg11 ?_;refine wl_if rfl ?_ ?_<;>intro aaq aax
   ·refine zg1 ?_;refine wl_regF 7 [0] ah ?_;refine zg6 ?_
    try refine zSm ?_
    refine rE ?_
    try refine zSm ?_
    refine zg2 ?_
    try refine zSm ?_
    refine zg7 ?_;exact rO
   have hmh:=muP_half (D:=D) (x:=x) (st:=st) J;have er:doneB D wd x (lk (x.1.take na) (x.1.drop na))=false:=by first | exact doneM qV (by simpa using sC) J | exact doneN J J
   refine aaf ?_
   try refine zSm ?_
   refine st_store rfl aah ?_;refine zg4 ?_;exact nx4 (loB x :: hiB x :: st) ([]) (m+1) cw ⟨(stw_half (D:=D) (wd:=wd) rZ tJ er ▸ sZ),fun y hy=>by
    simp only [bp] at hy;rcases hy with rfl | rfl | hy
    ·exact(hL.half x iD J).1
    ·exact(hL.half x iD J).2
    exact uc y hy,J,J⟩ (he:=((((((Weak.kill _ 10).trans (Weak.kill _ 11)).trans (Weak.kill _ 14)).trans (Weak.kill _ 15)).trans (Weak.kill _ 155))).trans (Weak.of_eq (put_id' (put_id' (put_id' (put_id' (mk_id' ox) cl) cl) cl) cl)))
  refine zg9 ?_;refine wl_regD 31 ah ?_;refine zg2 ?_;refine op_if 107 rfl ?_ ?_<;>intro ah5 agT
  ·refine zg5 ?_;refine cp am1 (xp) ?_;refine zg2 ?_;refine op_if 115 rfl ?_ ?_<;>intro adR qV
   ·refine zg25 ?_;refine wl_regF 7 [0] ah ?_;refine zg6 ?_
    try refine zSm ?_
    refine rE ?_
    try refine zSm ?_
    refine zg2 ?_
    try refine zSm ?_
    refine zg7 ?_;exact rO
   refine zg7 ?_;refine cp am2 (c_sWide x.1 wd J (fun s hs=>(ma s hs).1.le ae) J) ?_;refine zg4 ?_;refine op_if 127 rfl ?_ ?_<;>intro afU sC
   ·refine zg13 ?_;refine wl_regF 7 [0] ah ?_;refine zg6 ?_
    try refine zSm ?_
    refine rE ?_
    try refine zSm ?_
    refine zg2 ?_
    try refine zSm ?_
    refine zg7 ?_;exact rO
   refine zg11 ?_;refine wl_if rfl ?_ ?_<;>intro aaq aax
   ·refine zg1 ?_;refine wl_regF 7 [0] ah ?_;refine zg6 ?_
    try refine zSm ?_
    refine rE ?_
    try refine zSm ?_
    refine zg2 ?_
    try refine zSm ?_
    refine zg7 ?_;exact rO
   have hmh:=muP_half (D:=D) (x:=x) (st:=st) J;have er:doneB D wd x (lk (x.1.take na) (x.1.drop na))=false:=by first | exact doneM qV (by simpa using sC) J | exact doneN J J
   refine aaf ?_
   try refine zSm ?_
   refine st_store rfl aah ?_;refine zg4 ?_;exact nx4 (loB x :: hiB x :: st) ([]) (m+1) cw ⟨(stw_half (D:=D) (wd:=wd) rZ tJ er ▸ sZ),fun y hy=>by
    simp only [bp] at hy;rcases hy with rfl | rfl | hy
    ·exact(hL.half x iD J).1
    ·exact(hL.half x iD J).2
    exact uc y hy,J,J⟩ (he:=((((((Weak.kill _ 10).trans (Weak.kill _ 11)).trans (Weak.kill _ 14)).trans (Weak.kill _ 15)).trans (Weak.kill _ 155))).trans (Weak.of_eq (put_id' (put_id' (put_id' (put_id' (mk_id' ox) cl) cl) cl) cl)))
  refine zg31 ?_;refine wl_if rfl ?_ ?_<;>intro aaq aax
  ·refine zg1 ?_;refine wl_regF 7 [0] ah ?_;refine zg6 ?_
   try refine zSm ?_
   refine rE ?_
   try refine zSm ?_
   refine zg2 ?_
   try refine zSm ?_
   refine zg7 ?_;exact rO
  have hmh:=muP_half (D:=D) (x:=x) (st:=st) J;have er:doneB D wd x (lk (x.1.take na) (x.1.drop na))=false:=by first | exact doneM qV (by simpa using sC) J | exact doneN J J
  refine aaf ?_
  try refine zSm ?_
  refine st_store rfl aah ?_;refine zg4 ?_;exact nx4 (loB x :: hiB x :: st) ([]) (m+1) cw ⟨(stw_half (D:=D) (wd:=wd) rZ tJ er ▸ sZ),fun y hy=>by
   simp only [bp] at hy;rcases hy with rfl | rfl | hy
   ·exact(hL.half x iD J).1
   ·exact(hL.half x iD J).2
   exact uc y hy,J,J⟩ (he:=((((((Weak.kill _ 10).trans (Weak.kill _ 11)).trans (Weak.kill _ 14)).trans (Weak.kill _ 15)).trans (Weak.kill _ 155))).trans (Weak.of_eq (put_id' (put_id' (put_id' (put_id' (mk_id' ox) cl) cl) cl) cl)))
 obtain rfl:st=[]:=by
  cases st with
  | nil=>rfl
  | cons x s=>simp at nY
 have hR:=hE.nil;refine zg4 ?_;rw [hR];refine⟨_,Weak.kill _ 26,?_⟩;refine zSm ?_;exact retCN0 rfl rfl (by show (⟨_,_,_⟩:Blk)=⟨_,_,_⟩;simp only [rens,LV.ren,rens_pure,nI64,LV.ren_pure (ownNm [1]) (ratL wd) (ratE.pure wd)];rfl) aj rfl (pures_cel _) rfl
structure obL (x:LV) (n:Nat):Prop where
 cs:x.csize=n
 ag:x.isAgg=true
 pu:x.pure=true
theorem obL.kill {x:LV} {n:Nat} (h:obL x n) (b:Nat):LV.kill b x=x:=LV.kill_pure b x h.pu
theorem hp_noneM {l:List (Nat × Blk)} {c:Nat} (h:∀ x∈l.map (·.1),x≠c):hp l c=none:=by
 induction l with
 | nil=>rfl
 | cons q t ih =>
  obtain⟨d,y⟩:=q;have e:iS c d=false:=by
   rw [<-so,te];exact fun e=>h d aj e.symm
  simp only [hp,e,cond_false];exact ih fun x hx=>h x (by simp only [gA,bp];exact .inr hx)
theorem wl_wk {P:Program} {L L0:St} {id:Nat} {ops:Array Oper} {d:Bool} {Q:LEx->St->Prop} (hw:Weak L L0) (h:wpL P (.region id ops d) Q L0):wpL P (.region id ops d) Q L:=by
 unfold wpL at h ⊢;obtain⟨L1,h1,h2⟩:=h;exact⟨L1,hw.trans h1,h2⟩
end Go.Proofs.YtlipjipfpkbppaaGreat
end
