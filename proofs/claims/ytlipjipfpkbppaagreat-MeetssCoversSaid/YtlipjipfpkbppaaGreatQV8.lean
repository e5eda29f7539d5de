/- Texts Q1, Q1b, Q16, Q1c, Q17, Q21, Q25, Q23, Q24, Q26, Q27, Q28, Y9, Q29, U15, Q30, Q22, Y13, Q31, Q32, Q9, Q13, Q34, Q33 of this proof, joined. -/
import Derived.Test.YtlipjipfpkbppaaGreatQV7
set_option linter.unusedVariables false
set_option linter.unusedSimpArgs false
open And renaming intro->aF
open Bool renaming and_eq_true->dG,or_true->aa1
open Go.Proofs.Tryz renaming func23->abo,prog->aa,underlying165->aem,underlying169->xo,underlying249->oh,underlying250->aaR,underlying26->aV,underlying36->oB,underlying44->eT,underlying87->vW,underlying95->tP
open Int renaming emod_lt_of_pos->nB,emod_nonneg->nL,le_refl->abn,natAbs_mul->ur,tdiv_nonneg->abW,toNat_natCast->pQ,toNat_of_nonneg->qe
open List renaming append_nil->aS,ext_getElem->lX,forall_mem_cons->abB,getD_eq_getElem?_getD->ao,getElem?_eq_getElem->aB,getElem?_map->bU,getElem_mem->fY,length_cons->aQ,length_map->aA,length_nil->bc,map->jt,map_nil->bh,mem_append->eF,mem_append_left->vf,mem_append_right->wj,mem_cons->bp,mem_map->bS,mem_singleton->bD,nil_append->aR,not_mem_nil->cN,replicate->ai,set_cons_succ->aK,set_cons_zero->aN,take_nil->aZ,take_of_length_le->aH
open Nat renaming add_comm->dM,le_add_right->abN,le_mul_of_pos_right->mq,le_refl->an,le_trans->aw,lt_of_le_of_lt->jW,lt_or_ge->cu,mul_le_mul->cx,mul_one->dA,mul_pos->eN,one_pow->ac6,pow_le_pow_right->gg,pow_one->abM,pow_pos->dU,pow_two->adV,pow_zero->nI,reduceAdd->au,reduceBEq->aq,reduceEqDiff->aO,reduceMul->ar,zero_add->cJ,zero_le->az
open Option renaming getD_some->iY
open Rat renaming div_def->cj,div_mul_cancel->gz,intCast_mul->lI,intCast_pos->ou,intCast_sub->acx,le_of_lt->dp,le_refl->dD,le_trans->cA,mul_assoc->lU,mul_comm->iF,mul_div_cancel->mc,mul_eq_zero->acs,mul_le_mul_of_nonneg_right->fM,mul_lt_mul_of_pos_right->adZ,mul_nonneg->cO,mul_one->iX,mul_pos->oL,not_lt->vd,one_mul->fN
section
set_option linter.unusedVariables false
set_option linter.unusedSimpArgs false
set_option maxHeartbeats 8000000
set_option maxRecDepth 100000
attribute [local irreducible] Go.Lg.opsL Go.Lg.wpL Go.Lg.thenL Go.Lg.blockL
namespace Go.Proofs.YtlipjipfpkbppaaGreat
open Go.Lg
open H_c_SDet2 in
theorem c_sMin (a:Bx3) (R:Nat) (hR:R<=1000000000) (ha:bdB R a):CallP aa 91 [bxL a] (bxL (ngB a)):=by
 obtain⟨a1,a2,a3⟩:=ha;refine fnP Tryz.func91 (ht:=(fun r=>LV.ren_pure r _ (bxE.pure _))) ?_;refine zg13 ?_;refine fq ?_;refine zg15 ?_;refine cp am1 (c_SNeg a.x R hR a1) ?_;refine zg10 ?_;refine fq ?_;refine zg15 ?_;refine cp am1 (c_SNeg a.y R hR a2) ?_;refine zg10 ?_;refine fq ?_;refine zg15 ?_;refine cp am1 (c_SNeg a.z R hR a3) ?_;refine zg10 ?_;refine km ?_;refine zg12 ?_;exact retC [] rfl rfl rfl cs (at_all cs rfl) T96 (.pure pu)
open H_c_SDet2 in
theorem c_sCol (a b c:Bx3):CallP aa 94 [bxL a,bxL b,bxL c] (mtL a b c):=by
 refine fnP Tryz.func94 (ht:=(fun r=>LV.ren_pure r _ (mtL_pure _ _ _))) ?_;refine zg20 ?_;refine iR ?_;refine wl_regD 12 ah ?_;refine zg10 ?_;refine zSm ?_;refine st_pure rfl (bdV3 (v0:=spL a.x) (v1:=spL b.x) (v2:=spL c.x) tP T48 Z95 lz rfl rfl rfl lz lz lz (spE.pure _) (spE.pure _) (spE.pure _)) ?_;refine zg1 ?_;refine zSm ?_;refine st_store rfl (.stp (v:=bxL ⟨a.x,b.x,c.x⟩) rfl rfl rfl rfl bJ bJ rfl (putM0 bJ bJ bJ bJ rfl rfl) ⟨by simp [bxL],by simp [bxL]⟩) ?_;refine zg8 ?_;refine iR ?_;refine wl_regD 12 ah ?_;refine zg10 ?_;refine zSm ?_;refine st_pure rfl (bdV3 (v0:=spL a.y) (v1:=spL b.y) (v2:=spL c.y) tP T48 Z95 lz rfl rfl rfl lz lz lz (spE.pure _) (spE.pure _) (spE.pure _)) ?_;refine zg1 ?_;refine zSm ?_;refine st_store rfl (.stp (v:=bxL ⟨a.y,b.y,c.y⟩) rfl rfl rfl rfl bJ bJ rfl (putM1 bJ bJ bJ bJ rfl rfl) ⟨by simp [bxL],by simp [bxL]⟩) ?_;refine zg8 ?_;refine iR ?_;refine wl_regD 12 ah ?_;refine zg10 ?_;refine zSm ?_;refine st_pure rfl (bdV3 (v0:=spL a.z) (v1:=spL b.z) (v2:=spL c.z) tP T48 Z95 lz rfl rfl rfl lz lz lz (spE.pure _) (spE.pure _) (spE.pure _)) ?_;refine zg1 ?_
 refine zSm ?_;refine st_store rfl (.stp (v:=bxL ⟨a.z,b.z,c.z⟩) rfl rfl rfl rfl bJ bJ rfl (putM2 bJ bJ bJ bJ rfl rfl) ⟨by simp [bxL],by simp [bxL]⟩) ?_;refine zg8 ?_;refine km ?_;refine zg12 ?_;exact retC [] rfl rfl rfl cs (at_all cs rfl) T171 (.pure pu)
namespace H_c_SD312
theorem zSm {p q:Prop} (k:q) (e:p=q:=by simp only [sNF,ar,au,aq,mtL,List.getD_cons_zero,List.getD_cons_succ,aN,aK,aO,reduceIte,if_true,if_false,aX,LV.kill,kills];exact rfl):p:=e.mpr k
end H_c_SD312
open H_c_SD312 in
theorem c_SD312 (a b c:Bx3) (R:Nat) (hR:R<=10000000) (ha:bdB R a) (hb:bdB R b) (hc:bdB R c):CallP aa 171 [nI64 1,nI64 2,.boxp (mtL a b c)] (spL (d2S b.y c.y b.z c.z)):=by
 obtain⟨a1,a2,a3⟩:=ha;obtain⟨y1,y2,y3⟩:=hb;obtain⟨z1,z2,z3⟩:=hc;have bE:=mtL_pure a b c;have vX:LV.pure (.agg [.agg [spL b.y,spL c.y],.agg [spL b.z,spL c.z]])=true:=by simp [LV.pure,pures,spE.pure]
 refine aa3 ?_;refine st_pure rfl (bdV2 (v0:=spL b.y) (v1:=spL c.y) oh T48 Z249 lz rfl rfl lz lz (spE.pure _) (spE.pure _)) ?_;refine zg8 ?_;refine zSm ?_;refine st_pure rfl (bdV2 (v0:=spL b.z) (v1:=spL c.z) oh T48 Z249 lz rfl rfl lz lz (spE.pure _) (spE.pure _)) ?_
 try refine zSm ?_
 refine st_pure rfl (bdV2 (v0:=.agg [spL b.y,spL c.y]) (v1:=.agg [spL b.z,spL c.z]) aaR T249 Z250 lz rfl rfl lz lz pu pu) ?_
 try refine zSm ?_
 refine st_callP rfl (.cons (.pure vX) .nil) (c_SDet2 b.y c.y b.z c.z R J y2 z2 y3 z3) ?_;refine zg4 ?_;exact iW
open H_c_SD312 in
theorem c_SD302 (a b c:Bx3) (R:Nat) (hR:R<=10000000) (ha:bdB R a) (hb:bdB R b) (hc:bdB R c):CallP aa 171 [nI64 0,nI64 2,.boxp (mtL a b c)] (spL (d2S a.y c.y a.z c.z)):=by
 obtain⟨a1,a2,a3⟩:=ha;obtain⟨y1,y2,y3⟩:=hb;obtain⟨z1,z2,z3⟩:=hc;have bE:=mtL_pure a b c;have vX:LV.pure (.agg [.agg [spL a.y,spL c.y],.agg [spL a.z,spL c.z]])=true:=by simp [LV.pure,pures,spE.pure]
 refine aa3 ?_;refine st_pure rfl (bdV2 (v0:=spL a.y) (v1:=spL c.y) oh T48 Z249 lz rfl rfl lz lz (spE.pure _) (spE.pure _)) ?_;refine zg8 ?_;refine zSm ?_;refine st_pure rfl (bdV2 (v0:=spL a.z) (v1:=spL c.z) oh T48 Z249 lz rfl rfl lz lz (spE.pure _) (spE.pure _)) ?_
 try refine zSm ?_
 refine st_pure rfl (bdV2 (v0:=.agg [spL a.y,spL c.y]) (v1:=.agg [spL a.z,spL c.z]) aaR T249 Z250 lz rfl rfl lz lz pu pu) ?_
 try refine zSm ?_
 refine st_callP rfl (.cons (.pure vX) .nil) (c_SDet2 a.y c.y a.z c.z R J a2 z2 a3 z3) ?_;refine zg4 ?_;exact iW
open H_c_SD312 in
theorem c_SD301 (a b c:Bx3) (R:Nat) (hR:R<=10000000) (ha:bdB R a) (hb:bdB R b) (hc:bdB R c):CallP aa 171 [nI64 0,nI64 1,.boxp (mtL a b c)] (spL (d2S a.y b.y a.z b.z)):=by
 obtain⟨a1,a2,a3⟩:=ha;obtain⟨y1,y2,y3⟩:=hb;obtain⟨z1,z2,z3⟩:=hc;have bE:=mtL_pure a b c;have vX:LV.pure (.agg [.agg [spL a.y,spL b.y],.agg [spL a.z,spL b.z]])=true:=by simp [LV.pure,pures,spE.pure]
 refine aa3 ?_;refine st_pure rfl (bdV2 (v0:=spL a.y) (v1:=spL b.y) oh T48 Z249 lz rfl rfl lz lz (spE.pure _) (spE.pure _)) ?_;refine zg8 ?_;refine zSm ?_;refine st_pure rfl (bdV2 (v0:=spL a.z) (v1:=spL b.z) oh T48 Z249 lz rfl rfl lz lz (spE.pure _) (spE.pure _)) ?_
 try refine zSm ?_
 refine st_pure rfl (bdV2 (v0:=.agg [spL a.y,spL b.y]) (v1:=.agg [spL a.z,spL b.z]) aaR T249 Z250 lz rfl rfl lz lz pu pu) ?_
 try refine zSm ?_
 refine st_callP rfl (.cons (.pure vX) .nil) (c_SDet2 a.y b.y a.z b.z R J a2 y2 a3 y3) ?_;refine zg4 ?_;exact iW
namespace H_c_SDet3
theorem zSm {p q:Prop} (k:q) (e:p=q:=by simp only [sNF,ar,au,aq,mtL,fz0,frz_c,List.getD_cons_zero,List.getD_cons_succ,aN,aK,aO,reduceIte,if_true,if_false,aX,LV.kill,kills];exact rfl):p:=e.mpr k
end H_c_SDet3
open H_c_SDet3 in
theorem c_SDet3 (a b c:Bx3) (R:Nat) (hR:R<=10000000) (ha:bdB R a) (hb:bdB R b) (hc:bdB R c):CallP aa 93 [(mtL a b c)] (spL (d3S a b c)):=by
 obtain⟨a1,a2,a3⟩:=ha;obtain⟨y1,y2,y3⟩:=hb;obtain⟨z1,z2,z3⟩:=hc;have bE:=mtL_pure a b c;have bN:pures [.boxp (mtL a b c)]=true:=by simp [pures,LV.pure,mtL,spE.pure]
 have hcs:∀ x∈[LV.boxp (mtL a b c)],x.csize=1/\x.isAgg=false:=fun x hx=>by rw [bD.1 hx];exact⟨rfl,rfl⟩
 have k12:=c_SD312 a b c R hR ⟨a1,a2,a3⟩ ⟨y1,y2,y3⟩ ⟨z1,z2,z3⟩;have k02:=c_SD302 a b c R hR ⟨a1,a2,a3⟩ ⟨y1,y2,y3⟩ ⟨z1,z2,z3⟩;have k01:=c_SD301 a b c R hR ⟨a1,a2,a3⟩ ⟨y1,y2,y3⟩ ⟨z1,z2,z3⟩;have aeq:=d2S_bd y2 z2 y3 z3;have adK:=d2S_bd a2 z2 a3 z3;have abH:=d2S_bd a2 y2 a3 y3;have hmA:=muS_bd a1 aeq;have hmB:=muS_bd y1 adK;have wB:=muS_bd z1 abH;have ago:=sbS_bd hmA hmB;refine fnP Tryz.func93 (ht:=(fun r=>LV.ren_pure r _ (spE.pure _))) ?_;refine zg8 ?_;refine st_opc [1] rfl rfl (.mk (caps:=[.boxp (mtL a b c)]) (.cons (.eptr rfl rfl rfl cs (at_all cs rfl) bE rfl) .nil) hcs) rfl ?_;refine zg4 ?_;refine wl_regD 20 ah ?_;refine zg4 ?_;refine st_opc [] rfl rfl (.clo (f:=171) (cap:=[.boxp (mtL a b c)]) (args:=[nI64 1,nI64 2]) rfl (.cons (.pure rfl) (.cons (.pure rfl) .nil)) ⟨bN,hcs⟩ k12.1 ae (fun _ h=>by cases h)) (k12.2 _) ?_;refine cp am2 (c_SMul a.x (d2S b.y c.y b.z c.z) (4*R+1) J (a1.le J) aeq) ?_;refine zg4 ?_;refine st_opc [] rfl rfl (.clo (f:=171) (cap:=[.boxp (mtL a b c)]) (args:=[nI64 0,nI64 2]) rfl (.cons (.pure rfl) (.cons (.pure rfl) .nil)) ⟨bN,hcs⟩ k02.1 ae (fun _ h=>by cases h)) (k02.2 _) ?_;refine cp am2 (c_SMul b.x (d2S a.y c.y a.z c.z) (4*R+1) J (y1.le J) adK) ?_;refine cp am2 (c_SSub (muS a.x (d2S b.y c.y b.z c.z)) (muS b.x (d2S a.y c.y a.z c.z)) (R+(4*R+1)) J hmA hmB) ?_;refine zg4 ?_
 refine st_opc [] rfl rfl (.clo (f:=171) (cap:=[.boxp (mtL a b c)]) (args:=[nI64 0,nI64 1]) rfl (.cons (.pure rfl) (.cons (.pure rfl) .nil)) ⟨bN,hcs⟩ k01.1 ae (fun _ h=>by cases h)) (k01.2 _) ?_;refine cp am2 (c_SMul c.x (d2S a.y b.y a.z b.z) (4*R+1) J (z1.le J) abH) ?_;refine cp am2 (c_SAdd (sbS (muS a.x (d2S b.y c.y b.z c.z)) (muS b.x (d2S a.y c.y a.z c.z))) (muS c.x (d2S a.y b.y a.z b.z)) (20*R+10) J (ago.le J) (wB.le J)) ?_;refine zg4 ?_;exact iW
instance:Inhabited Bx3:=⟨⟨(0,0),(0,0),(0,0)⟩⟩
def rsT (l:List Bx3) (k:Nat):Nat->List Bx3
 | 0=>[]
 | i+1=>if i=k then rsT l k i else rsT l k i++[l.getD i default]
def dtK (l:List Bx3) (k:Nat):Rat × Rat:=d3S ((rsT l k 4).getD 0 default) ((rsT l k 4).getD 1 default) ((rsT l k 4).getD 2 default)
theorem rsT_bd {R:Nat} {l:List Bx3} {k:Nat} (h:∀ x∈l,bdB R x):∀ i,i<=l.length->∀ x∈rsT l k i,bdB R x
 | 0,_,x,hx=>by cases hx
 | i+1,hi,x,hx=>by
  unfold rsT at hx;split at hx
  ·exact rsT_bd h i J x hx
  rcases eF.1 hx with g | g
  ·exact rsT_bd h i J x g
  rw [bD.1 g,ao,aB J];exact h _ (fY _)
theorem rsT_len4 (l:List Bx3) {k:Nat} (h:k<4):(rsT l k 4).length=3:=by
 have:k=0\/k=1\/k=2\/k=3:=J;rcases this with rfl | rfl | rfl | rfl<;>simp [rsT]
theorem rsT_le (l:List Bx3) (k:Nat):∀ i,(rsT l k i).length<=i
 | 0=>an _
 | i+1=>by
  have:=rsT_le l k i;unfold rsT;split
  ·omega
  rw [List.length_append];simp;omega
theorem bxAt {l:List Bx3} {i:Nat} (h:i<l.length):(l.map bxL)[((i:Nat):Int).toNat]?=some (bxL (l.getD i default)):=by
 rw [pQ,bU,ao,aB h];rfl
theorem bxMem {l:List Bx3} {i:Nat} (h:i<l.length):l.getD i default∈l:=by
 rw [ao,aB h];exact fY h
theorem putQ0 {x y z u v:LV} (hx:x.csize=18) (hy:y.csize=18) (hz:z.csize=18) (hu:u.csize=18) (hv:v.csize=18) (xa:x.isAgg=true) (va:v.isAgg=true):(LV.agg [x,y,z,u]).put 0 v=some (.agg [v,y,z,u]):=by
 have:=put_whole x v (hx.trans hv.symm) (xa.trans va.symm);simp [LV.put,putFs,csizes,hx,hy,hz,hu,hv,this]
theorem putQ1 {x y z u v:LV} (hx:x.csize=18) (hy:y.csize=18) (hz:z.csize=18) (hu:u.csize=18) (hv:v.csize=18) (ya:y.isAgg=true) (va:v.isAgg=true):(LV.agg [x,y,z,u]).put 18 v=some (.agg [x,v,z,u]):=by
 have:=put_whole y v (hy.trans hv.symm) (ya.trans va.symm);simp [LV.put,putFs,csizes,hx,hy,hz,hu,hv,this]
theorem putQ2 {x y z u v:LV} (hx:x.csize=18) (hy:y.csize=18) (hz:z.csize=18) (hu:u.csize=18) (hv:v.csize=18) (za:z.isAgg=true) (va:v.isAgg=true):(LV.agg [x,y,z,u]).put 36 v=some (.agg [x,y,v,u]):=by
 have:=put_whole z v (hz.trans hv.symm) (za.trans va.symm);simp [LV.put,putFs,csizes,hx,hy,hz,hu,hv,this]
theorem putQ3 {x y z u v:LV} (hx:x.csize=18) (hy:y.csize=18) (hz:z.csize=18) (hu:u.csize=18) (hv:v.csize=18) (ua:u.isAgg=true) (va:v.isAgg=true):(LV.agg [x,y,z,u]).put 54 v=some (.agg [x,y,z,v]):=by
 have:=put_whole u v (hu.trans hv.symm) (ua.trans va.symm);simp [LV.put,putFs,csizes,hx,hy,hz,hu,hv,this]
theorem Zbx:ZeroOK aa 96 (bxL ⟨(0,0),(0,0),(0,0)⟩):=by
 have:=Z96;simpa only [bxL,spu] using this
def tsV (k:Nat):Bool × Nat × Nat:=if k<4 then(false,4,k) else(false,0,0)
instance:UN aa 165 (.array 4 96):=⟨aem⟩
theorem T165:TyIs aa 165 72 true:=⟨by kernel_rfl,_,aem,rfl⟩
theorem Z165:ZeroOK aa 165 (.agg [.agg [.agg [ratL 0,ratL 0],.agg [ratL 0,ratL 0],.agg [ratL 0,ratL 0]],.agg [.agg [ratL 0,ratL 0],.agg [ratL 0,ratL 0],.agg [ratL 0,ratL 0]],.agg [.agg [ratL 0,ratL 0],.agg [ratL 0,ratL 0],.agg [ratL 0,ratL 0]],.agg [.agg [ratL 0,ratL 0],.agg [ratL 0,ratL 0],.agg [ratL 0,ratL 0]]]):=by rw [ratL_zero];exact zk (i:=Tryz.t165) cX rfl rfl rfl rfl
instance:ZI aa 165 (.agg [.agg [.agg [ratL 0,ratL 0],.agg [ratL 0,ratL 0],.agg [ratL 0,ratL 0]],.agg [.agg [ratL 0,ratL 0],.agg [ratL 0,ratL 0],.agg [ratL 0,ratL 0]],.agg [.agg [ratL 0,ratL 0],.agg [ratL 0,ratL 0],.agg [ratL 0,ratL 0]],.agg [.agg [ratL 0,ratL 0],.agg [ratL 0,ratL 0],.agg [ratL 0,ratL 0]]]):=⟨Z165⟩
instance:EC aa 96 bxL 18 true ⟨(0,0),(0,0),(0,0)⟩:=⟨bxE,Zbx,T96⟩
namespace H_c_test
theorem zSm {p q:Prop} (k:q) (e:p=q:=by simp only [sNF,ar,au,aq,hLm,yx,zO,hZc,hs,ht,hsa,hta,tf,dJ,eir,a9,fz0,frz_c,kills_map bxE,bxL_kill,aA,List.getD_cons_zero,List.getD_cons_succ,bA,aQ,bc,aR,bh,aZ,aS,aN,aK,aO,reduceIte,if_true,if_false,aX,LV.kill,kills];exact rfl):p:=e.mpr k
end H_c_test
open H_c_test in
theorem c_test (s t:LV) (hs:s.csize=5) (hsa:s.isAgg=true) (bK:s.pure=true) (ht:t.csize=5) (hta:t.isAgg=true) (xL:t.pure=true) (xa xb xc xd:Bx3) (R:Nat) (hR:R<=10000000) (vM:bdB R xa) (ha1:bdB R xb) (bC:bdB R xc) (mT:bdB R xd) (mz:CallP aa 90 [s] (.tup [bxL xa,bxL xb])) (lV:CallP aa 90 [t] (.tup [bxL xc,bxL xd])) (k0:Nat) (ew:k0<=4) (mw:∀ k,k<k0->hasR (dtK [xa,xb,ngB xc,ngB xd] k) 0=true) (acV:k0<4->hasR (dtK [xa,xb,ngB xc,ngB xd] k0) 0=false):CallP aa 39 [s,t] (vdL (tsV k0)):=by
 obtain⟨Lb,uy⟩:∃ Lb,Lb=[xa,xb,ngB xc,ngB xd]:=⟨_,rfl⟩;have hL4:Lb.length=4:=by rw [uy];rfl
 have hLm:.agg [bxL xa,bxL xb,bxL (ngB xc),bxL (ngB xd)]=LV.agg (Lb.map bxL):=by rw [uy];rfl
 have hLc:(LV.agg (Lb.map bxL)).csize=72:=by rw [<-hLm];simp [LV.csize,csizes,spE.csize]
 have hLb:∀ x∈Lb,bdB R x:=by
  rw [uy];intro x hx;simp only [bp,cN,or_false] at hx;rcases hx with rfl | rfl | rfl | rfl
  ·exact vM
  ·exact ha1
  ·exact ngB_bd bC
  exact ngB_bd mT
 rw [<-uy] at mw acV;have n5:=c_sMin xc R J bC;have oP:=c_sMin xd R J mT;have yx:∀ b,LV.kill b s=s:=fun b=>LV.kill_pure b s bK;have zO:∀ b,LV.kill b t=t:=fun b=>LV.kill_pure b t xL;have hZc:(LV.agg [.agg [.agg [ratL 0,ratL 0],.agg [ratL 0,ratL 0],.agg [ratL 0,ratL 0]],.agg [.agg [ratL 0,ratL 0],.agg [ratL 0,ratL 0],.agg [ratL 0,ratL 0]],.agg [.agg [ratL 0,ratL 0],.agg [ratL 0,ratL 0],.agg [ratL 0,ratL 0]],.agg [.agg [ratL 0,ratL 0],.agg [ratL 0,ratL 0],.agg [ratL 0,ratL 0]]]).csize=72:=o5;refine fnP Tryz.func39 (ht:=(fun g=>LV.ren_pure g _ (vdL_pure _))) ?_;have tf:True:=trivial;have dJ:True:=trivial;have eir:True:=trivial;have a9:True:=trivial;refine zg14 ?_;refine st_pure rfl (.loadE rfl rfl rfl rfl hs (at_all hs hsa) T29) ?_;refine st_callP rfl (.cons (.pure bK) .nil) (mz) ?_;refine zg4 ?_;refine st_store rfl (.stp (v:=bxL xa) rfl rfl rfl rfl bJ bJ rfl (putQ0 bJ bJ bJ bJ bJ rfl rfl) ⟨by simp [bxL],by simp [bxL]⟩) ?_;refine zg1 ?_;refine st_store rfl (.stp (v:=bxL xb) rfl rfl rfl rfl bJ bJ rfl (putQ1 bJ bJ bJ bJ bJ rfl rfl) ⟨by simp [bxL],by simp [bxL]⟩) ?_;refine zg4 ?_;refine st_pure rfl (.loadE rfl rfl rfl rfl ht (at_all ht hta) T29) ?_;refine st_callP rfl (.cons (.pure xL) .nil) (lV) ?_;refine zg10 ?_
 refine wl_regAW ((Weak.boxp (t:=6) (b:=6) rfl rfl cs rfl (bxE.pure _)).trans (Weak.boxp (t:=7) (b:=7) rfl rfl (by simp only [LV.kill,kills,spL_kill];exact cs) rfl (by simp only [LV.kill,kills,spL_kill];exact bxE.pure xd))) ?_;refine zSm ?_;refine any_hoistC 0 rfl rfl ah (.pure (.ldbx rfl (bxE.pure _) cs rfl)) (fun b=>show LV.kill b (bxL xc)=bxL xc from bxL_kill _ b) fmA ?_;refine any_hoistC 1 rfl rfl ah (opvP (.cons (.pure (bxE.pure _)) .nil) n5) (fun b=>show LV.kill b (bxL (ngB xc))=bxL (ngB xc) from bxL_kill _ b) (aF (fun _=>rfl) (aF (fun b=>show LV.kill b (bxL xc)=bxL xc from bxL_kill _ b) trivial)) ?_;refine any_hoistC 2 rfl rfl ah (.pure (.ldbx rfl (bxE.pure _) cs rfl)) (fun b=>show LV.kill b (bxL xd)=bxL xd from bxL_kill _ b) fmA ?_;refine any_hoistC 3 rfl rfl ah (opvP (.cons (.pure (bxE.pure _)) .nil) oP) (fun b=>show LV.kill b (bxL (ngB xd))=bxL (ngB xd) from bxL_kill _ b) (aF (fun _=>rfl) (aF (fun b=>show LV.kill b (bxL xd)=bxL xd from bxL_kill _ b) trivial)) ?_;refine any_1 4 _ ah rfl ?_;refine fQ ?_;refine any_1 5 _ ah rfl ?_;refine st_store rfl (.stp (v:=bxL (ngB xc)) rfl rfl rfl rfl bJ bJ rfl (putQ2 bJ bJ bJ bJ bJ rfl rfl) ⟨by simp [bxL],by simp [bxL]⟩) ?_;refine st_nil ?_;refine any_1 6 _ ah rfl ?_;refine fQ ?_;refine any_1 7 _ ah rfl ?_
 refine st_store rfl (.stp (v:=bxL (ngB xd)) rfl rfl rfl rfl bJ bJ rfl (putQ3 bJ bJ bJ bJ bJ rfl rfl) ⟨by simp [bxL],by simp [bxL]⟩) ?_;refine st_nil ?_;refine any_0 ah ?_;refine zg8 ?_;refine wl_weak (((Weak.kill _ 2).trans (Weak.kill _ 3))) ?_;refine lp1 (fun(k:Nat) L=>(mS L [(4,⟨3,[.agg [.v (.bool false),.v (.int .i64 0),.v (.int .i64 0)]],true⟩),(5,⟨72,[.agg (Lb.map bxL)],true⟩)] [(30,nI64 k),(5,.eptr 5 72 0 0),(4,.eptr 4 3 0 0)])) (fun k=>k<=k0) (fun k=>k0-k) 0 (az _) ?_;rintro k L1 hk;refine zg6 ?_;refine wl_if rfl ?_ ?_<;>intro aaA yD
 ·have hk4:k<4:=J;refine zg12 ?_;refine st_alloc rfl rfl (.makeM (n:=0) (m:=3) bxE xo Zbx T96 B96 rfl rfl J J J) ?_;refine zg6 ?_;refine st_pure rfl (.loadE rfl rfl rfl rfl hLc (at_all hLc rfl) T165) ?_;refine zg4 ?_;refine lp1 (fun(i:Nat) L=>(mS L [(4,⟨3,[.agg [.v (.bool false),.v (.int .i64 0),.v (.int .i64 0)]],true⟩),(5,⟨72,[.agg (Lb.map bxL)],true⟩),(33,⟨18,(rsT Lb k i).map bxL,true⟩)] [(35,nI64 i),(34,.agg (Lb.map bxL)),(9,.ref 33 18 0 (rsT Lb k i).length),(8,nI64 k),(30,nI64 k),(5,.eptr 5 72 0 0),(4,.eptr 4 3 0 0)])) (fun i=>i<=4) (fun i=>4-i) 0 (az _) ?_;rintro i L2 hi;refine zg6 ?_;refine wl_if rfl ?_ ?_<;>intro af3 h36
  ·have hi2:i<4:=J;have hle:=rsT_le Lb k i;have a9:((rsT Lb k i).map bxL).take (rsT Lb k i).length=(rsT Lb k i).map bxL:=aH aj;refine zg7 ?_;refine st_pure rfl (.ixa (fs:=Lb.map bxL) rfl rfl J (bxAt J) (bxE.pure _) (by simp [uy,lay,LV.csize,csizes,isAgg_agg,spE.csize,spE.isAgg])) ?_;refine zg12 ?_;refine wl_if rfl ?_ ?_<;>intro tD h41
   ·have ak:i≠k:=J;have dJ:(rsT Lb k i)++[(Lb.getD i default)]=(rsT Lb k (i+1)):=by rw [rsT,if_neg ak]
    have tf:(rsT Lb k i).length+1=(rsT Lb k (i+1)).length:=by rw [<-dJ];simp
    refine zg3 ?_;refine st_alloc rfl rfl (.lit1 (a:=(Lb.getD i default)) (z:=⟨(0,0),(0,0),(0,0)⟩) bxE xo Zbx T96 rfl ae ae) ?_;refine st_store rfl (.appX (d:=33) (news:=[bxL (Lb.getD i default)]) rfl rfl rfl rfl lN (.inl rfl) ae xo xo Zbx T96 cs B96 (.inl ⟨44,0,_,rfl,by decide,rfl,rfl,by simp,rfl,by simp [pures,bxE.pure]⟩) al al ae) ?_;refine zg4 ?_;refine wl_regW ((Weak.kill _ 11).trans (Weak.kill _ 44)) ?_;refine bq ?_;exact cq
   have ak:i=k:=J;have eir:(rsT Lb k (i+1))=(rsT Lb k i):=by rw [rsT,if_pos ak]
   refine zg3 ?_;refine wl_regW ((Weak.kill _ 11).trans (Weak.kill _ 44)) ?_;refine bq ?_;exact cq
  obtain rfl:i=4:=J;have tf:=rsT_len4 Lb (show k<4 by omega);have hrb:=rsT_bd hLb (k:=k) 4 J;have fO:=hrb _ (bxMem (l:=(rsT Lb k 4)) (i:=0) J);have eH:=hrb _ (bxMem (l:=(rsT Lb k 4)) (i:=1) J);have lh:=hrb _ (bxMem (l:=(rsT Lb k 4)) (i:=2) J);have jc:=d3S_bd fO eH lh;have hDT:=c_SDet3 ((rsT Lb k 4).getD 0 default) ((rsT Lb k 4).getD 1 default) ((rsT Lb k 4).getD 2 default) R hR fO eH lh;have hHs:=c_SHas (dtK Lb k) 0 (by have:=jc.1;have:rl 0=1:=rfl;show rl (d3S _ _ _).1+_<=_;omega) (by have:=jc.2;have:rl 0=1:=rfl;show _+rl (d3S _ _ _).2<=_;omega);refine zg6 ?_;refine wl_regD 14 ah ?_;refine zg9 ?_;refine zSm ?_;refine st_callP rfl (.cons (.pure (bxE.pure _)) (.cons (.pure (bxE.pure _)) (.cons (.pure (bxE.pure _)) .nil))) (c_sCol ((rsT Lb k 4).getD 0 default) ((rsT Lb k 4).getD 1 default) ((rsT Lb k 4).getD 2 default)) ?_;refine st_callP rfl (.cons (.pure (mtL_pure _ _ _)) .nil) (hDT) ?_;refine fu ?_
  try refine zSm ?_
  refine st_callP rfl (.cons (.pure (spE.pure _)) (.cons (.pure (ratE.pure _)) .nil)) (hHs) ?_;refine zg3 ?_;refine wl_if rfl ?_ ?_<;>intro ahm h60
  ·have jw:k=k0:=by
    rcases cu k k0 with g | g
    ·have:=mw k g;simp_all
    omega
   have hvV:tsV k0=(false,4,k0):=if_pos J;refine zg13 ?_;obtain rfl:=jw;exact retC [] rfl rfl rfl rfl (at_all rfl rfl) T91 (by rw [hvV];exact .pure rfl)
  have jw:k<k0:=by
   rcases cu k k0 with g | g
   ·exact g
   obtain rfl:k=k0:=J;have:=acV J;simp_all
  refine zg3 ?_;refine wl_regW (Weak.kill _ 33) ?_;refine bq ?_;exact qi
 obtain rfl:k0=4:=J;refine zg12 ?_;exact retC [] rfl rfl rfl rfl (at_all rfl rfl) T91 (.pure rfl)
def lkS (X Y:Bx3) (K:Nat):Bool × Nat × Nat:=if meB X Y then tsV K else(true,0,0)
namespace H_c_look19
theorem zSm {p q:Prop} (k:q) (e:p=q:=by simp only [sNF,ar,au,aq,hX.kill,hY.kill,aA,bA,aQ,bc,aR,bh,aZ,aS,kills_map spE,List.getD_cons_zero,List.getD_cons_succ,aN,aK,aO,reduceIte,if_true,if_false,aX,LV.kill,kills];exact rfl):p:=e.mpr k
end H_c_look19
open H_c_look19 in
theorem c_look19 (sa sb ta tb:Sp) (A B X Y:LV) (hA:obL A 5) (hB:obL B 5) (hX:obL X 5) (hY:obL Y 5) (bX bY:Bx3) (R:Nat) (hR:R<=1000000) (hbX:bdB R bX) (hbY:bdB R bY) (K:Nat) (yY:CallP aa 36 [A,spL sa,spL sb] (.tup [X,iL 0])) (hC2:CallP aa 36 [B,spL ta,spL tb] (.tup [Y,iL 0])) (hX1:CallP aa 38 [X] (bxL bX)) (hX2:CallP aa 38 [Y] (bxL bY)) (hKi:meB bX bY=true->CallP aa 39 [X,Y] (vdL (tsV K))):CallP aa 35 [.list 6 ([sa,sb].map spL),.list 6 ([ta,tb].map spL),.boxp A,.boxp B] (vdL (lkS bX bY K)):=by
 have hMB:=c_MeetsB bX bY R J hbX hbY;refine fnP Tryz.func35 (ht:=(fun g=>LV.ren_pure g _ (vdL_pure _))) ?_;refine zg6 ?_;refine wl_regF 12 [10] ah ?_;refine st_pure rfl (.ldbx rfl hA.pu hA.cs hA.ag) ?_;refine zg1 ?_;refine st_pure rfl (.idxL (n:=0) (r:=spL sa) rfl eT T48 rfl ae rfl (spE.csize _)) ?_;refine zg2 ?_;refine st_pure rfl (.idxL (n:=1) (r:=spL sb) rfl eT T48 rfl ae rfl (spE.csize _)) ?_;refine zg1 ?_
 try refine zSm ?_
 refine st_callP rfl (.cons (.pure hA.pu) (.cons (.pure (spE.pure _)) (.cons (.pure (spE.pure _)) (.nil)))) yY ?_;refine zg1 ?_;refine st_pure rfl (.extract rfl rfl (LV.pure_ne_tup hX.pu)) ?_;refine zg2 ?_;refine zSm ?_;refine st_store rfl (.store rfl rfl rfl rfl rfl rfl (put_whole _ _ hX.cs.symm hX.ag.symm) (show TyIs _ _ (X).csize (X).isAgg by rw [hX.cs,hX.ag];exact T29) ⟨LV.pure_ne_any hX.pu,LV.pure_ne_tup hX.pu⟩) ?_;refine zg4 ?_;refine wl_regF 12 [10] ah ?_;refine st_pure rfl (.ldbx rfl hB.pu hB.cs hB.ag) ?_;refine zg1 ?_;refine st_pure rfl (.idxL (n:=0) (r:=spL ta) rfl eT T48 rfl ae rfl (spE.csize _)) ?_;refine zg2 ?_;refine st_pure rfl (.idxL (n:=1) (r:=spL tb) rfl eT T48 rfl ae rfl (spE.csize _)) ?_;refine zg1 ?_
 try refine zSm ?_
 refine st_callP rfl (.cons (.pure hB.pu) (.cons (.pure (spE.pure _)) (.cons (.pure (spE.pure _)) (.nil)))) hC2 ?_;refine zg1 ?_;refine st_pure rfl (.extract rfl rfl (LV.pure_ne_tup hY.pu)) ?_;refine zg2 ?_;refine zSm ?_;refine st_store rfl (.store rfl rfl rfl rfl rfl rfl (put_whole _ _ hY.cs.symm hY.ag.symm) (show TyIs _ _ (Y).csize (Y).isAgg by rw [hY.cs,hY.ag];exact T29) ⟨LV.pure_ne_any hY.pu,LV.pure_ne_tup hY.pu⟩) ?_;refine zg5 ?_;refine wl_regD 6 ah ?_
 try refine zSm ?_
 refine st_pure rfl (.loadE (b:=7) (sz:=5) (i:=0) (o:=0) (x:=X) (r:=X) (n:=5) (ag:=true) rfl rfl rfl rfl hX.cs (at_all hX.cs hX.ag) T29) ?_;refine st_callP rfl (.cons (.pure hX.pu) (.nil)) hX1 ?_
 try refine zSm ?_
 refine st_pure rfl (.loadE (b:=9) (sz:=5) (i:=0) (o:=0) (x:=Y) (r:=Y) (n:=5) (ag:=true) rfl rfl rfl rfl hY.cs (at_all hY.cs hY.ag) T29) ?_;refine st_callP rfl (.cons (.pure hY.pu) (.nil)) hX2 ?_;refine st_callP rfl (.cons (.pure (bxE.pure _)) (.cons (.pure (bxE.pure _)) .nil)) hMB ?_;refine zg3 ?_;refine wl_if rfl ?_ ?_<;>intro acg wJ
 ·have hv:(lkS bX bY K)=(true,0,0):=if_neg (by simpa using wJ);refine zg8 ?_;exact retC [] rfl rfl rfl cs (at_all cs rfl) T91 (by rw [hv];exact .pure pu)
 have hm:meB bX bY=true:=by simpa using wJ
 have hv:(lkS bX bY K)=tsV K:=if_pos hm;have hKi:=hKi hm;refine zg4 ?_
 try refine zSm ?_
 refine st_pure rfl (.loadE (b:=7) (sz:=5) (i:=0) (o:=0) (x:=X) (r:=X) (n:=5) (ag:=true) rfl rfl rfl rfl hX.cs (at_all hX.cs hX.ag) T29) ?_
 try refine zSm ?_
 refine st_pure rfl (.loadE (b:=9) (sz:=5) (i:=0) (o:=0) (x:=Y) (r:=Y) (n:=5) (ag:=true) rfl rfl rfl rfl hY.cs (at_all hY.cs hY.ag) T29) ?_;refine st_callP rfl (.cons (.pure hX.pu) (.cons (.pure hY.pu) (.nil))) hKi ?_;refine zg4 ?_;exact retC [] rfl rfl rfl cs (at_all cs rfl) T91 (by rw [hv];exact .pure pu)
namespace H_c_Meet19
theorem zSm {p q:Prop} (k:q) (e:p=q:=by simp only [sNF,ar,au,aq,hA.kill,hB.kill,hA.cs,hB.cs,hc5,hc7,fz0,frz_c,rens_pure _ _ (pures_cel _),aA,bA,aQ,bc,aR,bh,aZ,aS,kills_map spE,kills_map celE,List.getD_cons_zero,List.getD_cons_succ,aN,aK,aO,reduceIte,if_true,if_false,aX,LV.kill,kills];exact rfl):p:=e.mpr k
end H_c_Meet19
open H_c_Meet19 in
theorem c_Meet19 (A B:LV) (hA:obL A 5) (hB:obL B 5) (da db dc de:Sp) (d w:Nat) (wd:Rat) (hd:d<=10) (hw:w<=4096) (fC:rl wd<=100) (lk:LookT) (I:BoxT->Prop) (zA:CallP aa 31 [.agg [nI64 d,nI64 w,ratL wd]] (bL true)) (hPa:CallP aa 32 [A] (.list 5 [A])) (hPb:CallP aa 32 [B] (.list 5 [B])) (ze:CallP aa 33 [A] (.tup [spL da,spL db])) (hDb:CallP aa 33 [B] (.tup [spL dc,spL de])) (hLk:LookOK aa 35 ([.boxp A,.boxp B]:List LV) d 2 4 lk I) (tG:I ([da,db]++[dc,de],0,ai 4 0)):CallP aa 8 [A,B,.agg [nI64 d,nI64 w,ratL wd]] (.tup [.list 4 ((endP d w 2 wd lk ([([da,db]++[dc,de],0,ai 4 0)],0,[])).2.2.map celV),iL 0]):=by
 have hc5:(LV.agg [nI64 d,nI64 w,ratL wd]).csize=5:=o5;have hc7:(LV.agg [.agg [nI64 d,nI64 w,ratL wd],.v (.slice none 0 0),nI64 0]).csize=7:=o5;have dC:LV.pure (.agg [nI64 d,nI64 w,ratL wd])=true:=prW_pure d w wd;have nK:∀ m n:Nat,rens (nmC 23 900 57) [.agg [.agg [nI64 d,nI64 w,ratL wd],.ref 1 4 0 m,nI64 n]]=[.agg [.agg [nI64 d,nI64 w,ratL wd],.ref 900 4 0 m,nI64 n]]:=fun m n=>by
  simp only [rens,LV.ren,nI64,LV.ren_pure _ (ratL wd) (ratE.pure wd)];rfl
 have x9:∀ m n:Nat,rens (nameN 23 57) [.agg [.agg [nI64 d,nI64 w,ratL wd],.ref 1 4 0 m,nI64 n]]=[.agg [.agg [nI64 d,nI64 w,ratL wd],.ref 1000913 4 0 m,nI64 n]]:=fun m n=>by
  simp only [rens,LV.ren,nI64,LV.ren_pure _ (ratL wd) (ratE.pure wd)];rfl
 have yy:∀ l:List CelT,rens (nameN 23 57) (l.map celV)=l.map celV:=fun l=>rens_pure _ _ (pures_cel _);have dR:nameN 23 57 1=1000913:=rfl;have bN:pures ([.boxp A,.boxp B]:List LV)=true:=by simp only [pures,LV.pure,hA.pu,hB.pu,Bool.and_self]
 have hcs:∀ x∈([.boxp A,.boxp B]:List LV),x.csize=1/\x.isAgg=false:=fun x hx=>by
  simp only [bp,cN,or_false] at hx;rcases hx with e | e<;>rw [e]<;>exact⟨rfl,rfl⟩
 have afp:=c_PairW 35 2 4 d w ([.boxp A,.boxp B]:List LV) lk I hLk bN hcs [da,db] [dc,de] rfl aj aj rfl ae tG wd fC 0 [] J hw (az _) aj;refine fnP Tryz.func8 (ht:=(tame2 (by simp only [LV.pure,pures_cel]) rfl)) ?_;refine zg2 ?_;refine st_alloc rfl rfl (.box ⟨LV.pure_ne_any hA.pu,LV.pure_ne_tup hA.pu⟩) ?_;refine st_alloc rfl rfl (.box ⟨LV.pure_ne_any hB.pu,LV.pure_ne_tup hB.pu⟩) ?_;refine zg8 ?_;refine st_pure rfl (.loadE rfl rfl rfl rfl cs (at_all cs rfl) T41) ?_;refine st_callP rfl (.cons (.pure dC) .nil) (zA) ?_;refine zg3 ?_;refine wl_condY (b:=_) rfl (rfl) ?_;refine zg4 ?_;refine st_pure rfl (.loadE rfl rfl rfl rfl cs (at_all cs rfl) T41) ?_;refine st_pure rfl (show OpP _ _ _ _ (.agg [.agg [nI64 d,nI64 w,ratL wd],.v (.slice none 0 0),nI64 0]) from .build (zs:=[.agg [.v (.int .i64 0),.v (.int .i64 0),ratL 0],.v (.slice none 0 0),.v (.int .i64 0)]) (by simpa [lay,LV.csize,csizes,LV.isAgg,ratE.csize] using SL86) Z86 (by simp only [abB];exact⟨⟨_,rfl,(show lay (.agg [nI64 d,nI64 w,ratL wd])=lay (.agg [.v (.int .i64 0),.v (.int .i64 0),ratL 0]) by simp [lay,LV.csize,csizes,LV.isAgg,ratE.csize]),ne0⟩,fun _ h=>by cases h⟩)) ?_;refine zg6 ?_
 try refine zSm ?_
 refine st_pure rfl (.loadE (b:=4) (sz:=5) (i:=0) (o:=0) (x:=B) (r:=B) (n:=5) (ag:=true) rfl rfl rfl rfl hB.cs (at_all hB.cs hB.ag) T29) ?_;refine st_callP rfl (.cons (.pure hB.pu) .nil) (hPb) ?_;refine zg6 ?_;refine st_pure rfl (.loadE (b:=3) (sz:=5) (i:=0) (o:=0) (x:=A) (r:=A) (n:=5) (ag:=true) rfl rfl rfl rfl hA.cs (at_all hA.cs hA.ag) T29) ?_;refine st_callP rfl (.cons (.pure hA.pu) .nil) (hPa) ?_;refine zg5 ?_;refine wl_unroll ?_;refine zg6 ?_;refine wl_condX (b:=_) rfl (rfl) ?_;refine zg6 ?_;refine st_pure rfl (.idxL rfl vW T29 rfl ae rfl hA.cs) ?_;refine st_pure rfl (.ldbx rfl hA.pu hA.cs hA.ag) ?_;refine zg1 ?_
 try refine zSm ?_
 refine st_store rfl (.store rfl rfl rfl rfl rfl rfl (put_whole _ _ hA.cs.symm hA.ag.symm) (show TyIs _ _ (A).csize (A).isAgg by rw [hA.cs,hA.ag];exact T29) ⟨LV.pure_ne_any hA.pu,LV.pure_ne_tup hA.pu⟩) ?_;refine zg10 ?_;refine wl_unroll ?_;refine zg6 ?_;refine wl_condX (b:=_) rfl (rfl) ?_;refine zg6 ?_;refine st_pure rfl (.idxL rfl vW T29 rfl ae rfl hB.cs) ?_;refine st_pure rfl (.ldbx rfl hB.pu hB.cs hB.ag) ?_;refine zg1 ?_
 try refine zSm ?_
 refine st_store rfl (.store rfl rfl rfl rfl rfl rfl (put_whole _ _ hB.cs.symm hB.ag.symm) (show TyIs _ _ (B).csize (B).isAgg by rw [hB.cs,hB.ag];exact T29) ⟨LV.pure_ne_any hB.pu,LV.pure_ne_tup hB.pu⟩) ?_;refine zg4 ?_
 try refine zSm ?_
 refine st_pure rfl (.loadE (b:=11) (sz:=5) (i:=0) (o:=0) (x:=A) (r:=A) (n:=5) (ag:=true) rfl rfl rfl rfl hA.cs (at_all hA.cs hA.ag) T29) ?_;refine st_callP rfl (.cons (.pure hA.pu) .nil) (ze) ?_;refine zg11 ?_
 try refine zSm ?_
 refine st_pure rfl (.loadE (b:=13) (sz:=5) (i:=0) (o:=0) (x:=B) (r:=B) (n:=5) (ag:=true) rfl rfl rfl rfl hB.cs (at_all hB.cs hB.ag) T29) ?_;refine st_callP rfl (.cons (.pure hB.pu) .nil) (hDb) ?_;refine zg9 ?_;refine wl_wk (Weak.cellNil (b:=23) (d:=900) (csz:=4) ae rfl rfl (fun Z μ w part h=>repNil3 (d:=900) (c:=4) Z μ w part h)) ?_
 try refine zSm ?_
 refine wl_regX 8 ?_;simp only [List.take_succ_cons,List.take_zero];refine zg1 ?_
 try refine zSm ?_
 refine zg1 ?_
 try refine zSm ?_
 refine zg1 ?_
 try refine zSm ?_
 refine st_alloc rfl rfl (.lit2 (a:=da) (b:=db) (z:=(0,0)) spE eT Z48s T48 rfl rfl ae ae) ?_
 try refine zSm ?_
 refine zg1 ?_
 try refine zSm ?_
 refine zg1 ?_
 try refine zSm ?_
 refine st_alloc rfl rfl (.lit2 (a:=dc) (b:=de) (z:=(0,0)) spE eT Z48s T48 rfl rfl ae ae) ?_
 try refine zSm ?_
 refine st_opc [11,13,52,55] rfl rfl (.mk (caps:=([.boxp A,.boxp B]:List LV)) (.cons (.eptr rfl rfl rfl hA.cs (at_all hA.cs hA.ag) hA.pu rfl) (.cons (.eptr rfl rfl rfl hB.cs (at_all hB.cs hB.ag) hB.pu rfl) .nil)) hcs) rfl ?_
 try refine zSm ?_
 refine st_semX rfl (sem_callC (f:=34) (b:=23) (c:=900) (sz:=7) (csz:=4) (vals:=[.agg [.agg [nI64 d,nI64 w,ratL wd],.ref 1 4 0 0,nI64 0]]) (cvals:=[]) 57 rfl ae ae (by rw [nK];rfl) rfl (.cons (.ren (y:=.eptr 0 7 0 0) ⟨by simp,by simp⟩) (.cons (.imm (.ref (blk:=⟨6,[spL da,spL db],false⟩) rfl rfl (by simp [pures,spE.pure]) aj rfl)) (.cons (.imm (.ref (blk:=⟨6,[spL dc,spL de],false⟩) rfl rfl (by simp [pures,spE.pure]) aj rfl)) (.cons (.imm (.pure (show LV.pure (.clo 35 ([.boxp A,.boxp B]:List LV))=true by simpa [LV.pure] using bN))) .nil)))) .ptr afp aj (fun k hk=>hp_noneM (by intro x hx;simp only [List.map_cons,bh,bp,cN,or_false] at hx;unfold callName;omega))) ?_;simp only [addB,dR,x9,yy];refine zSm ?_;refine zg8 ?_;refine wl_unroll ?_;refine zg6 ?_;refine wl_condY (b:=_) rfl (rfl) ?_;refine zg11 ?_;refine wl_unroll ?_;refine zg6 ?_;refine wl_condY (b:=_) rfl (rfl) ?_;refine zg16 ?_;exact ret2f [1000913] rfl rfl (imm_refm (l:=(endP d w 2 wd lk ([([da,db]++[dc,de],0,ai 4 0)],0,[])).2.2) celE rfl rfl rfl) rfl (.pure rfl)
namespace H_c_sPat
theorem zSm {p q:Prop} (k:q) (e:p=q:=by simp only [sNF,ar,au,aq,fz0,frz_c,hda,jc,List.getD_cons_zero,List.getD_cons_succ,aA,Nat.reduceSub,bA,aQ,bc,aR,bh,aZ,aS,prL_kill,kills_map prE,dfr,dfq,bA,aQ,bc,aR,bh,aZ,aS,aN,aK,aO,reduceIte,if_true,if_false,aX,LV.kill,kills];exact rfl):p:=e.mpr k
end H_c_sPat
open H_c_sPat in
theorem c_sPat (R U V:Nat) (ua ub va vb:Rat) (rows:List (List PoR)) (h:pf R U V rows) (hR:R<=64) (hu:ua<ub) (hv:va<vb) (h1:rl ua<=64) (h2:rl ub<=64) (h3:rl va<=64) (h4:rl vb<=64) (hCs:CallP aa 36 [.agg [nI64 U,nI64 V,.list 3 ((kn2 U ua ub).map ratL),.list 3 ((kn2 V va vb).map ratL),.list 1 (rows.map prL)],spL (ua,ub),spL (va,vb)] (.tup [.agg [nI64 U,nI64 V,.list 3 ((kn2 U ua ub).map ratL),.list 3 ((kn2 V va vb).map ratL),.list 1 (rows.map prL)],iL 0])):CallP aa 32 [.agg [nI64 U,nI64 V,.list 3 ((kn2 U ua ub).map ratL),.list 3 ((kn2 V va vb).map ratL),.list 1 (rows.map prL)]] (.list 5 [.agg [nI64 U,nI64 V,.list 3 ((kn2 U ua ub).map ratL),.list 3 ((kn2 V va vb).map ratL),.list 1 (rows.map prL)]]):=by
 have bK:LV.pure (.agg [nI64 U,nI64 V,.list 3 ((kn2 U ua ub).map ratL),.list 3 ((kn2 V va vb).map ratL),.list 1 (rows.map prL)])=true:=bH;have qX:pures [.agg [nI64 U,nI64 V,.list 3 ((kn2 U ua ub).map ratL),.list 3 ((kn2 V va vb).map ratL),.list 1 (rows.map prL)]]=true:=by simp [pures,LV.pure,pures_map ratE,pures_map prE]
 have jx:=h.u1;have eC:=h.u3;have kI:=h.v1;have fj:=h.v3;have iE:=kn2_len U ua ub;have fg:=kn2_len V va vb;have jr:=h.n;have hSd:=c_Ssnd U V (kn2 U ua ub) (kn2 V va vb) rows (kn2_ok jx J hu h1 h2) (kn2_ok kI J hv h3 h4) J (fun r hr=>by rw [h.m r hr,fg];omega) (fun r hr q hq=>(h.ok r hr q hq).le hR);have hC:=hCs;have hda:dsN (kn2 U ua ub) (kn2 U ua ub).length=[ua,ub]:=ds_kn2 hu;have jc:dsN (kn2 V va vb) (kn2 V va vb).length=[va,vb]:=ds_kn2 hv;have ze:=c_Distinct (kn2 U ua ub) J J (fun x hx=>aw (kn2_rl h1 h2 x hx) ae);have hDb:=c_Distinct (kn2 V va vb) J J (fun x hx=>aw (kn2_rl h3 h4 x hx) ae);have iz:=c_SOf ua ub J;rw [mn_lt2 hu,mx_lt2 hu] at iz;have mW:=c_SOf va vb J;rw [mn_lt2 hv,mx_lt2 hv] at mW;refine fnP Tryz.func32 (ht:=(fun g=>LV.ren_pure g _ bH)) ?_;refine zg10 ?_;refine cp am1 (hSd) ?_;refine zg3 ?_;refine wl_condY (b:=_) rfl (rfl) ?_;refine zg8 ?_;refine wl_regD 8 ah ?_;refine zg2 ?_;refine cp am1 (ze) ?_;refine zg2 ?_;refine cp am1 (hDb) ?_;refine zg14 ?_;refine wl_unroll ?_;refine zg6 ?_;refine wl_condX (b:=_) rfl (rfl) ?_;refine zg19 ?_;refine wl_unroll ?_;refine zg6 ?_;refine wl_condX (b:=_) rfl (rfl) ?_;refine zg11 ?_;refine wl_regF 26 [24] ah ?_;refine zg10 ?_;refine zSm ?_;refine cp am2 (iz) ?_;refine zg9 ?_;refine zSm ?_;refine cp am2 (mW) ?_;refine cp am3 (hC) ?_;refine zg11 ?_
 refine zSm ?_;refine st_alloc rfl rfl (lit1V (z:=.agg [.v (.int .i64 0),.v (.int .i64 0),.v (.slice none 0 0),.v (.slice none 0 0),.v (.slice none 0 0)]) (v:=.agg [nI64 U,nI64 V,.list 3 ((kn2 U ua ub).map ratL),.list 3 ((kn2 V va vb).map ratL),.list 1 (rows.map prL)]) vW Z29 rfl rfl T29 rfl rfl rfl bK ae ae) ?_;refine st_store rfl (.app0X (d:=59) (sz:=5) (news:=[.agg [nI64 U,nI64 V,.list 3 ((kn2 U ua ub).map ratL),.list 3 ((kn2 V va vb).map ratL),.list 1 (rows.map prL)]]) (z:=.agg [.v (.int .i64 0),.v (.int .i64 0),.v (.slice none 0 0),.v (.slice none 0 0),.v (.slice none 0 0)]) rfl rfl vW vW Z29 T29 rfl B29 (.inl ⟨58,0,_,rfl,rfl,rfl,by simp,rfl,qX⟩) aj aj aj ae) ?_;refine zg9 ?_;refine wl_unroll ?_;refine zg6 ?_;refine wl_condY (b:=_) rfl (rfl) ?_;refine zg11 ?_;refine wl_unroll ?_;refine zg6 ?_;refine wl_condY (b:=_) rfl (rfl) ?_;refine zg12 ?_;exact ret1f [59] rfl rfl (imm_ref rfl rfl qX aj)
theorem sI0 (n:Nat) (f:Nat->Rat):sI 0 n f=f:=by
 induction n generalizing f with
 | zero=>rfl
 | succ n ih =>
  show sI 0 n (sS 0 f)=f;rw [ih];funext i;unfold sS;grind
theorem sI1 (n:Nat) (f:Nat->Rat):sI 1 n f=fun i=>f (i+n):=by
 induction n generalizing f with
 | zero=>rfl
 | succ n ih =>
  show sI 1 n (sS 1 f)=_;rw [ih];funext i;show sS 1 f (i+n)=f (i+(n+1));unfold sS;rw [show i+(n+1)=i+n+1 by omega];grind
theorem pcV01 (n:Nat) (f:Nat->Rat) (j:Nat):pcV 0 1 n f j=f j:=by
 show sI 0 (n-j) (sI 1 j f) 0=f j;rw [sI0,sI1];show f (0+j)=f j;rw [cJ]
theorem pcT01 (U V:Nat) (c:Nat->Nat->Rat) (i j:Nat):pcT U V (0,1) (0,1) c i j=c i j:=by
 unfold pcT;rw [pcV01,pcV01]
theorem svC_ext {U V D N D' N':Nat} {r s:List (List PoR)} (hr:svC U V r D N) (hs:svC U V s D' N') (e:∀ k i j,i<=U->j<=V->pc4 r k i j=pc4 s k i j):r=s:=by
 have l1:=hr.n;have l2:=hs.n;have po:∀ p q:PoR,0<p.w->(∀ k,qc (hoQ p) k=qc (hoQ q) k)->p=q:=fun p q hw h=>by
  have h3:p.w=q.w:=h 3;have h0:p.w*p.p.x=q.w*q.p.x:=h 0;have h1:p.w*p.p.y=q.w*q.p.y:=h 1;have h2:p.w*p.p.z=q.w*q.p.z:=h 2;rw [<-h3] at h0 h1 h2;have c:∀ {x y:Rat},p.w*x=p.w*y->x=y:=fun {x y} h=>by
   have e1:∀ t:Rat,p.w*t/p.w=t:=fun t=>by rw [iF];exact mc ay
   rw [<-e1 x,h,e1]
  obtain⟨⟨x,y,z⟩,w⟩:=p;obtain⟨⟨x',y',z'⟩,w'⟩:=q;have a0:x=x':=c h0;have a1:y=y':=c h1;have a2:z=z':=c h2;have a3:w=w':=h3;rw [a0,a1,a2,a3]
 refine lX J fun i h1 h2=>?_;have m1:=hr.m _ (fY h1);have m2:=hs.m _ (fY h2);refine lX J fun j g1 g2=>?_;have gr:(r.getD i []).getD j default=r[i][j]:=by rw [ao (l:=r),aB h1,iY,ao,aB g1];rfl
 have gs:(s.getD i []).getD j default=s[i][j]:=by rw [ao (l:=s),aB h2,iY,ao,aB g2];rfl
 have hw:=hr.w i j J J;unfold pc4 at hw e;rw [gr] at hw;refine po _ _ hw fun k=>?_;have:=e k i j J J;rwa [gr,gs] at this
theorem ownA {a b:Rat} (h:a<b):(a-a)/(b-a)=0/\(b-a)/(b-a)=1:=by
 constructor
 ·rw [show a-a=0 by grind,cj,Rat.zero_mul]
 rw [cj];exact Rat.mul_inv_cancel _ ay
theorem uQ01:uQ 1 0/\uQ 1 1:=⟨⟨0,1,by decide +kernel,by decide +kernel⟩,⟨1,0,by decide +kernel,by decide +kernel⟩⟩
theorem c_sWhole {U V D N k:Nat} {rows:List (List PoR)} (h:svC U V rows D N) (hD:0<D) (u1:1<=U) (u3:U<=3) (v1:1<=V) (v3:V<=3) {ua ub va vb:Rat} (hu:ua<ub) (hv:va<vb) (h1:rl ua<=64) (h2:rl ub<=64) (h3:rl va<=64) (h4:rl vb<=64)
  (hN:N<4294967296 ^ k) (a6:D<4294967296 ^ k) (hk:1<=k) (pw:k<=64):CallP aa 36 [.agg [nI64 U,nI64 V,.list 3 ((kn2 U ua ub).map ratL),.list 3 ((kn2 V va vb).map ratL),.list 1 (rows.map prL)],spL (ua,ub),spL (va,vb)] (.tup [.agg [nI64 U,nI64 V,.list 3 ((kn2 U ua ub).map ratL),.list 3 ((kn2 V va vb).map ratL),.list 1 (rows.map prL)],iL 0]):=by
 have w0:(0:Rat)<=0/\(0:Rat)<=1:=ah;have w1:(0:Rat)<=1/\(1:Rat)<=1:=ah;have e1:∀ x:Nat,x*1 ^ U*1 ^ V=x:=fun x=>by rw [ac6,ac6,dA,dA]
 obtain⟨a,b,c⟩:=c_sCutV (E:=1) (k:=k) h ae hD u1 u3 v1 v3 hu hv h1 h2 h3 h4 hu hv dD dD dD dD h1 h2 h3 h4 (ownA hu).1 (ownA hu).2 (ownA hv).1 (ownA hv).2 w0 w1 w0 w1 uQ01.1 uQ01.2 uQ01.1 uQ01.2 (by rw [e1];exact hN) (by rw [e1];exact a6) hk pw;have e:=svC_ext b h fun k i j hi hj=>(c k i j hi hj).trans (pcT01 U V _ i j);rw [e] at a;exact a
theorem c_sPatV {U V D N k:Nat} {rows:List (List PoR)} (h:svC U V rows D N) (hD:0<D) (u1:1<=U) (u3:U<=3) (v1:1<=V) (v3:V<=3) {ua ub va vb:Rat} (hu:ua<ub) (hv:va<vb) (h1:rl ua<=64) (h2:rl ub<=64) (h3:rl va<=64) (h4:rl vb<=64)
  (hN:N<4294967296 ^ k) (a6:D<4294967296 ^ k) (hk:1<=k) (pw:k<=64):CallP aa 32 [.agg [nI64 U,nI64 V,.list 3 ((kn2 U ua ub).map ratL),.list 3 ((kn2 V va vb).map ratL),.list 1 (rows.map prL)]] (.list 5 [.agg [nI64 U,nI64 V,.list 3 ((kn2 U ua ub).map ratL),.list 3 ((kn2 V va vb).map ratL),.list 1 (rows.map prL)]]) :=
 c_sPat k U V ua ub va vb rows (h.pf hD hN a6 hk J u1 u3 v1 v3) pw hu hv h1 h2 h3 h4 (c_sWhole h hD u1 u3 v1 v3 hu hv h1 h2 h3 h4 hN a6 hk pw)
theorem ret3C {P:Program} {L:St} {a1 a2 a3:Nat} {T1 T2 T3:TypeId} {b1 b2 b3 s1 s2 s3:Nat} {x1 x2 x3:LV} {m1 m2 m3:Bool} {n1 n2 n3:Nat} {g1 g2 g3:Bool}
  (h1:L.slot a1=.eptr b1 s1 0 0) (k1:L.heap b1=some ⟨s1,[x1],m1⟩) (z1:x1.csize=s1) (c1:x1.at 0 n1 g1=some x1) (y1:TyIs P T1 n1 g1) (w1:x1.pure=true)
  (h2:L.slot a2=.eptr b2 s2 0 0) (k2:L.heap b2=some ⟨s2,[x2],m2⟩) (z2:x2.csize=s2) (c2:x2.at 0 n2 g2=some x2) (y2:TyIs P T2 n2 g2) (w2:x2.pure=true)
  (h3:L.slot a3=.eptr b3 s3 0 0) (k3:L.heap b3=some ⟨s3,[x3],m3⟩) (z3:x3.csize=s3) (c3:x3.at 0 n3 g3=some x3) (y3:TyIs P T3 n3 g3) (w3:x3.pure=true):RetL P [.cell a1 T1,.cell a2 T2,.cell a3 T3] L (.tup [x1,x2,x3]) [] :=
 ⟨[x1,x2,x3],[x1,x2,x3],(L.frz []).heap,[],.cons ⟨b1,s1,0,0,_,x1,n1,g1,h1,k1,rfl,rfl,z1,c1,y1⟩ (.cons ⟨b2,s2,0,0,_,x2,n2,g2,h2,k2,rfl,rfl,z2,c2,y2⟩ (.cons ⟨b3,s3,0,0,_,x3,n3,g3,h3,k3,rfl,rfl,z3,c3,y3⟩ .nil)),frz_le [] rfl,.cons (.imm (.pure w1)) (.cons (.imm (.pure w2)) (.cons (.imm (.pure w3)) .nil)),List.nodup_nil,rfl,fun k b h=>by simp at h,rfl⟩
namespace H_c_two19H
theorem zSm {p q:Prop} (k:q) (e:p=q:=by simp only [sNF,ar,au,aq,fz0,frz_c,mpL_kill,dice_kill,prL_kill,kills_map prE,dfr,dfq,bA,aQ,bc,aR,bh,aZ,aS,aN,aK,aO,reduceIte,if_true,if_false,aX,LV.kill,kills];exact rfl):p:=e.mpr k
end H_c_two19H
open H_c_two19H in
theorem c_two19H (l:List Int) (na nb nc ne v:Int) (k1 k2 k3:Nat) (U V W Y:Nat) (kU kV kW kY:List Rat) (rows kR eO:List (List PoR)) (du dv dw dy:Sp) (w0 w1 w2 w3:Rat) (P Q:V3) (iz:CallOKM aa 25 ⟨2,[diceL l 0],true⟩ [.eptr 0 2 0 0,iL 2,iL 0] (.agg [nI64 U,nI64 V,.list 3 (kU.map ratL),.list 3 (kV.map ratL),.list 1 (rows.map prL)]) ⟨2,[diceL l k1],true⟩) (mW:CallOKM aa 25 ⟨2,[diceL l k1],true⟩ [.eptr 0 2 0 0,iL 2,iL 0] (.agg [nI64 W,nI64 Y,.list 3 (kW.map ratL),.list 3 (kY.map ratL),.list 1 (kR.map prL)]) ⟨2,[diceL l k2],true⟩) (uK:CallOKM aa 26 ⟨2,[diceL l k2],true⟩ [.eptr 0 2 0 0,iL 2] (iL v) ⟨2,[diceL l k3],true⟩) (sf:v=0->eO=(kR.map fun r=>r.map (mvP (⟨⟨0,0,1⟩,⟨0,1,0⟩,⟨1,0,0⟩,⟨0,0,0⟩⟩:M3)))) (vz:¬v=0->eO=kR) (n5:CallP aa 27 [.agg [nI64 W,nI64 Y,.list 3 (kW.map ratL),.list 3 (kY.map ratL),.list 1 (kR.map prL)],mpL (⟨⟨0,0,1⟩,⟨0,1,0⟩,⟨1,0,0⟩,⟨0,0,0⟩⟩:M3)] (.agg [nI64 W,nI64 Y,.list 3 (kW.map ratL),.list 3 (kY.map ratL),.list 1 ((kR.map fun r=>r.map (mvP (⟨⟨0,0,1⟩,⟨0,1,0⟩,⟨1,0,0⟩,⟨0,0,0⟩⟩:M3))).map prL)])) (mz:CallP aa 29 [.agg [nI64 U,nI64 V,.list 3 (kU.map ratL),.list 3 (kV.map ratL),.list 1 (rows.map prL)]] (.tup [spL du,spL dv])) (lV:CallP aa 29 [.agg [nI64 W,nI64 Y,.list 3 (kW.map ratL),.list 3 (kY.map ratL),.list 1 (eO.map prL)]] (.tup [spL dw,spL dy])) (v7:CallP aa 12 [spL du,iL na] (ratL w0)) (rW:CallP aa 12 [spL dv,iL nb] (ratL w1)) (qq:CallP aa 12 [spL dw,iL nc] (ratL w2)) (uo:CallP aa 12 [spL dy,iL ne] (ratL w3)) (q7:CallP aa 14 [.agg [nI64 U,nI64 V,.list 3 (kU.map ratL),.list 3 (kV.map ratL),.list 1 (rows.map prL)],ratL w0,ratL w1] (.tup [ptL P,iL 0])) (rG:CallP aa 14 [.agg [nI64 W,nI64 Y,.list 3 (kW.map ratL),.list 3 (kY.map ratL),.list 1 (eO.map prL)],ratL w2,ratL w3] (.tup [ptL Q,iL 0])) (zI:CallP aa 30 [ptL Q,ptL P] (mpL (shM (v3s P Q)))) (oP:CallP aa 27 [.agg [nI64 W,nI64 Y,.list 3 (kW.map ratL),.list 3 (kY.map ratL),.list 1 (eO.map prL)],mpL (shM (v3s P Q))] (.agg [nI64 W,nI64 Y,.list 3 (kW.map ratL),.list 3 (kY.map ratL),.list 1 ((eO.map fun r=>r.map (mvP (shM (v3s P Q)))).map prL)])):CallP aa 7 [.list 1 (l.map i64L),.agg [iL na,iL nb,iL nc,iL ne],iL 0] (.tup [.agg [nI64 U,nI64 V,.list 3 (kU.map ratL),.list 3 (kV.map ratL),.list 1 (rows.map prL)],.agg [nI64 W,nI64 Y,.list 3 (kW.map ratL),.list 3 (kY.map ratL),.list 1 ((eO.map fun r=>r.map (mvP (shM (v3s P Q)))).map prL)],.agg [ratL w0,ratL w1,ratL w2,ratL w3]]):=by
 have bK:LV.pure (.agg [nI64 U,nI64 V,.list 3 (kU.map ratL),.list 3 (kV.map ratL),.list 1 (rows.map prL)])=true:=n9;have hsq:LV.pure (.agg [nI64 W,nI64 Y,.list 3 (kW.map ratL),.list 3 (kY.map ratL),.list 1 (kR.map prL)])=true:=n9;have hsz:LV.pure (.agg [nI64 W,nI64 Y,.list 3 (kW.map ratL),.list 3 (kY.map ratL),.list 1 (eO.map prL)])=true:=n9;have hsm:LV.pure (.agg [nI64 W,nI64 Y,.list 3 (kW.map ratL),.list 3 (kY.map ratL),.list 1 ((eO.map fun r=>r.map (mvP (shM (v3s P Q)))).map prL)])=true:=n9;have ag6:LV.pure (.agg [nI64 W,nI64 Y,.list 3 (kW.map ratL),.list 3 (kY.map ratL),.list 1 ((kR.map fun r=>r.map (mvP (⟨⟨0,0,1⟩,⟨0,1,0⟩,⟨1,0,0⟩,⟨0,0,0⟩⟩:M3))).map prL)])=true:=n9;have lH:LV.pure (.agg [ratL w0,ratL w1,ratL w2,ratL w3])=true:=ny;have yN:∀ b,LV.kill b (.agg [ratL w0,ratL w1,ratL w2,ratL w3])=(.agg [ratL w0,ratL w1,ratL w2,ratL w3]):=fun b=>LV.kill_pure b _ lH;have mf:LV.csize (.agg [ratL w0,ratL w1,ratL w2,ratL w3])=12:=o5;have aaS:LV.csize (.agg [ratL w0,ratL w1,ratL w2,ratL w3])=(LV.agg [ratL 0,ratL 0,ratL 0,ratL 0]).csize:=o5;have qX:LV.pure (.agg [iL na,iL nb,iL nc,iL ne])=true:=rfl;refine fnP Tryz.func7 (ht:=(tame3 n9 n9 ny)) ?_;refine zg11 ?_;refine st_call1 [] rfl rfl (.cons im0 .nil) (c_Roll l) (dice_pure l 0) rfl ?_;refine zg7 ?_
 refine st_callMp 1000353 rfl rfl rfl (dice_pure l _) (.cons .ptr (.cons (.imm (.pure rfl)) (.cons (.imm (.pure rfl)) .nil))) .ptr iz rfl (dice_pure l _) bK ?_;refine zg1 ?_;refine st_callMp 1000353 rfl rfl rfl (dice_pure l _) (.cons .ptr (.cons (.imm (.pure rfl)) (.cons (.imm (.pure rfl)) .nil))) .ptr mW rfl (dice_pure l _) hsq ?_;refine zg10 ?_;refine st_callMp 1000353 rfl rfl rfl (dice_pure l _) (.cons .ptr (.cons (.imm (.pure rfl)) .nil)) .ptr uK rfl (dice_pure l _) rfl ?_;refine zg3 ?_;refine wl_if rfl ?_ ?_<;>intro aaP rp
 ·have ez:=sf (by simpa using rp);have agj:CallP aa 27 [.agg [nI64 W,nI64 Y,.list 3 (kW.map ratL),.list 3 (kY.map ratL),.list 1 (kR.map prL)],mpL (⟨⟨0,0,1⟩,⟨0,1,0⟩,⟨1,0,0⟩,⟨0,0,0⟩⟩:M3)] (.agg [nI64 W,nI64 Y,.list 3 (kW.map ratL),.list 3 (kY.map ratL),.list 1 (eO.map prL)]):=by rw [ez];exact n5
  refine wl_regD 7 ah ?_;refine st_pure rfl pn ?_;refine cp am1 (c_Unit2) ?_;refine cp am1 (c_Unit1) ?_;refine cp am1 (c_Unit0) ?_;refine s0bd (bdM3 rfl rfl rfl) ?_;refine s0bd (bdMp1 rfl) ?_;refine st_callP rfl (.cons (.pure hsq) (.cons (.pure (mpE.pure _)) (.nil))) agj ?_;refine zg5 ?_;refine st_pure rfl pn ?_;refine st_callP rfl (.cons (.pure bK) (.nil)) mz ?_;refine zg11 ?_;refine st_pure rfl pn ?_;refine st_callP rfl (.cons (.pure hsz) (.nil)) lV ?_;refine zg10 ?_;refine wl_regD 18 ah ?_;refine zg3 ?_;refine cp am2 (v7) ?_;refine zg3 ?_;refine cp am2 (rW) ?_;refine zg3 ?_;refine cp am2 (qq) ?_;refine zg3 ?_;refine cp am2 (uo) ?_;refine zg7 ?_;refine st_pure rfl pn ?_;refine abe ?_;refine zg9 ?_
  refine adT ?_;refine abA ?_
  refine adi ?_;refine st_nil ?_;refine any_1 8 _ ah rfl ?_;refine fQ ?_;refine any_1 9 _ ah rfl ?_;refine nP ?_;exact ret3C rfl rfl cs (at_all cs rfl) T29 (by assumption) rfl rfl cs (at_all cs rfl) T29 (by assumption) rfl rfl aaS (at_all mf rfl) T33 lH
 obtain rfl:=vz (by simpa using rp);refine zg4 ?_;refine st_pure rfl pn ?_;refine st_callP rfl (.cons (.pure bK) (.nil)) mz ?_;refine zg11 ?_;refine st_pure rfl pn ?_;refine st_callP rfl (.cons (.pure hsz) (.nil)) lV ?_;refine zg10 ?_;refine wl_regD 18 ah ?_;refine zg3 ?_;refine cp am2 (v7) ?_;refine zg3 ?_;refine cp am2 (rW) ?_;refine zg3 ?_;refine cp am2 (qq) ?_;refine zg3 ?_;refine cp am2 (uo) ?_;refine zg7 ?_;refine st_pure rfl pn ?_;refine abe ?_;refine zg9 ?_;refine adT ?_
 refine abA ?_;refine adi ?_
 refine st_nil ?_;refine any_1 8 _ ah rfl ?_;refine fQ ?_;refine any_1 9 _ ah rfl ?_;refine nP ?_;exact ret3C rfl rfl cs (at_all cs rfl) T29 (by assumption) rfl rfl cs (at_all cs rfl) T29 (by assumption) rfl rfl aaS (at_all mf rfl) T33 lH
theorem quo_mvu {n w:List Rat} {w0 m t u:Rat} (hn:0<n.length) (hw:0<w.length) (qg:0<w0) (hW:∀ t,0<=t->t<=1->w0<=evP w t) (ht:0<=t) (jC:t<=u) (hu:u<=1)
  (h:∀ s,t<=s->s<=u->(evP (difP n) s*evP w s-evP n s*evP (difP w) s)/(evP w s*evP w s)<=m):evP n u/evP w u<=evP n t/evP w t+m*(u-t):=by
 obtain⟨K,k⟩:=quo_taylor hn hw qg hW;have key:-(evP n t/evP w t)+-m*(u-t)<=-(evP n u/evP w u):=by
  refine mvi (g:=fun x=>-(evP n x/evP w x)) (C:=K) jC fun s d hs hd hsd=>?_;have h1:=(k s d (cA ht hs) hd (cA hsd hu)).2;have hsu:s<=u:=by clear h1 h k hW;grind
  have h2:=Rat.mul_le_mul_of_nonneg_left (h s hs hsu) hd;show -(evP n s/evP w s)+_<=-(evP n (s+d)/evP w (s+d));clear h k hW;generalize (evP (difP n) s*evP w s-evP n s*evP (difP w) s)/(evP w s*evP w s)=q at *
  generalize evP n s/evP w s=x at *
  generalize evP n (s+d)/evP w (s+d)=y at *
  grind
 clear h k hW;generalize evP n t/evP w t=x at *
 generalize evP n u/evP w u=y at *
 grind
def ptK (U V:Nat) (F:List PoR) (k:Nat) (x y:Rat):Rat:=evT U V (nmP F k) x y/evT U V (wtP F) x y
theorem sg_evU {R U V:Nat} {rows:List (List PoR)} (h:pf R U V rows) (k:Nat) (x y:Rat):evT (U-1+U) (V+V) (sgN U V (U-1) V (dfU U V) rows.flatten k) x y=evP (difP (colT U V (nmP rows.flatten k) y)) x*evT U V (wtP rows.flatten) x y-evT U V (nmP rows.flatten k) x y*evP (difP (colT U V (wtP rows.flatten) y)) x:=by
 have l1:(nmP rows.flatten k).length=(U+1)*(V+1):=by rw [nmP_len];exact h.len
 have l2:(wtP rows.flatten).length=(U+1)*(V+1):=by rw [wtP_len];exact h.len
 unfold sgN;rw [evT_sub (by unfold tmL;rw [gL_len]),evT_tm (dfU_len U V _) l2];have e:evT (U-1+U) (V+V) (tmL U V (U-1) V (nmP rows.flatten k) (dfU U V (wtP rows.flatten))) x y=evT U V (nmP rows.flatten k) x y*evT (U-1) V (dfU U V (wtP rows.flatten)) x y:=by
  rw [dM (U-1) U];exact evT_tm l1 (dfU_len U V _) x y
 rw [e,ev_dfU l1,ev_dfU l2]
theorem sg_evV {R U V:Nat} {rows:List (List PoR)} (h:pf R U V rows) (k:Nat) (x y:Rat):evT (U+U) (V-1+V) (sgN U V U (V-1) (dfV U V) rows.flatten k) x y=evP (difP (rowT U V (nmP rows.flatten k) x)) y*evT U V (wtP rows.flatten) x y-evT U V (nmP rows.flatten k) x y*evP (difP (rowT U V (wtP rows.flatten) x)) y:=by
 have l1:(nmP rows.flatten k).length=(U+1)*(V+1):=by rw [nmP_len];exact h.len
 have l2:(wtP rows.flatten).length=(U+1)*(V+1):=by rw [wtP_len];exact h.len
 unfold sgN;rw [evT_sub (by unfold tmL;rw [gL_len]),evT_tm (dfV_len l1) l2];have e:evT (U+U) (V-1+V) (tmL U V U (V-1) (nmP rows.flatten k) (dfV U V (wtP rows.flatten))) x y=evT U V (nmP rows.flatten k) x y*evT U (V-1) (dfV U V (wtP rows.flatten)) x y:=by
  rw [dM (V-1) V];exact evT_tm l1 (dfV_len l2) x y
 rw [e,ev_dfV l1,ev_dfV l2]
def inV (B:Bx3) (v:V3):Prop:=(B.x.1<=v.x/\v.x<=B.x.2)/\(B.y.1<=v.y/\v.y<=B.y.2)/\(B.z.1<=v.z/\v.z<=B.z.2)
def det3 (a b c:V3):Rat:=a.x*(b.y*c.z-c.y*b.z)-b.x*(a.y*c.z-c.y*a.z)+c.x*(a.y*b.z-b.y*a.z)
theorem d2_inV {A B C D:Rat × Rat} {a b c d:Rat} (ha:A.1<=a/\a<=A.2) (hb:B.1<=b/\b<=B.2) (hc:C.1<=c/\c<=C.2) (hd:D.1<=d/\d<=D.2):(d2S A B C D).1<=a*d-b*c/\a*d-b*c<=(d2S A B C D).2:=by
 have h1:=mu_in ha.1 ha.2 hd.1 hd.2;have h2:=mu_in hb.1 hb.2 hc.1 hc.2;exact sb_in h1.1 h1.2 h2.1 h2.2
theorem det_in {A B C:Bx3} {a b c:V3} (ha:inV A a) (hb:inV B b) (hc:inV C c):(d3S A B C).1<=det3 a b c/\det3 a b c<=(d3S A B C).2:=by
 obtain⟨a1,a2,a3⟩:=ha;obtain⟨b1,b2,b3⟩:=hb;obtain⟨c1,c2,c3⟩:=hc;have m1:=d2_inV b2 c2 b3 c3;have m2:=d2_inV a2 c2 a3 c3;have m3:=d2_inV a2 b2 a3 b3;have p1:=mu_in a1.1 a1.2 m1.1 m1.2;have p2:=mu_in b1.1 b1.2 m2.1 m2.2;have p3:=mu_in c1.1 c1.2 m3.1 m3.2;have s:=sb_in p1.1 p1.2 p2.1 p2.2;unfold d3S adS det3;exact⟨by have:=s.1;have:=p3.1;grind,by have:=s.2;have:=p3.2;grind⟩
theorem cramer {a b c:V3} {x y z:Rat} (h:det3 a b c≠0) (e1:a.x*x+b.x*y+c.x*z=0) (e2:a.y*x+b.y*y+c.y*z=0) (e3:a.z*x+b.z*y+c.z*z=0):x=0/\y=0/\z=0:=by
 have k:∀ t:Rat,t*det3 a b c=0->t=0:=fun t ht=>by
  rcases acs.1 ht with g | g
  ·exact g
  exact absurd g h
 unfold det3 at k;refine⟨k x ?_,k y ?_,k z ?_⟩
 ·grind
 ·grind
 grind
theorem box_inj {A B C:Bx3} {a b c:V3} {x y z:Rat} (h:hasR (d3S A B C) 0=false) (ha:inV A a) (hb:inV B b) (hc:inV C c) (e1:a.x*x+b.x*y+c.x*z=0) (e2:a.y*x+b.y*y+c.y*z=0) (e3:a.z*x+b.z*y+c.z*z=0):x=0/\y=0/\z=0:=by
 have hd:=det_in ha hb hc;refine cramer (fun e=>?_) e1 e2 e3;rw [e] at hd;unfold hasR at h;rw [decide_eq_true hd.1,decide_eq_true hd.2] at h;exact absurd h ae
def inSp (s:Sp) (x:Rat):Prop:=s.1<=x/\x<=s.2
theorem inSp_half {s:Sp} {x:Rat} (h:inSp s x):inSp (loS s) x\/inSp (hiS s) x:=by
 rcases Rat.le_total (a:=x) (b:=mdS s) with g | g
 ·exact .inl ⟨h.1,g⟩
 exact .inr ⟨g,h.2⟩
def hasL (l:List Sp) (n:Nat) (p:Nat->Rat):Prop:=l.length=n/\∀ i,i<n->inSp (l.getD i default) (p i)
theorem hasL_set {l:List Sp} {n k:Nat} {p:Nat->Rat} {s:Sp} (h:hasL l n p) (hs:inSp s (p k)):hasL (l.set k s) n p:=by
 refine⟨by rw [List.length_set];exact h.1,fun i hi=>?_⟩;have hl:=h.1;by_cases e:k=i
 ·subst e;rw [ao,List.getElem?_set_self J];exact hs
 rw [ao,List.getElem?_set_ne e,<-ao];exact h.2 i hi
theorem hasL_half {x:BoxT} {n:Nat} {p:Nat->Rat} (hn:0<n) (ht:x.2.2.length=n) (h:hasL x.1 n p):hasL (loB x).1 n p\/hasL (hiB x).1 n p:=by
 have ha:=lstA_lt (t:=x.2.2) x.2.2.length (an _) J;have hk:atB x<n:=by unfold atB;omega
 rcases inSp_half (h.2 _ hk) with g | g
 ·exact .inl (hasL_set h g)
 exact .inr (hasL_set h g)
def celOf (na:Nat) (lk:LookT) (I:BoxT->Prop) (c:CelT):Prop:=∃ x,I x/\(c=celB na x (false,0,0)\/c=celB na x (lk (x.1.take na) (x.1.drop na)))
theorem endP_all {D W na n:Nat} {wd:Rat} {lk:LookT} {I:BoxT->Prop} {p:Nat->Rat} (hn:0<n) (hl:∀ x,I x->x.2.2.length=n) (hH:∀ x,I x->x.2.1<D->I (loB x)/\I (hiB x)) (hk:∀ x,I x->hasL x.1 n p->(lk (x.1.take na) (x.1.drop na)).1=false)
  {x0:BoxT} (h0:I x0) (hp:hasL x0.1 n p):(∀ c∈(endP D W na wd lk ([x0],0,[])).2.2,celOf na lk I c)/\∃ c∈(endP D W na wd lk ([x0],0,[])).2.2,hasL (c.1++c.2.1) n p:=by
 have:=endP_ind (D:=D) (W:=W) (na:=na) (wd:=wd) (lk:=lk) (fun s=>(∀ x∈s.1,I x)/\(∀ c∈s.2.2,celOf na lk I c)/\((∃ x∈s.1,hasL x.1 n p)\/∃ c∈s.2.2,hasL (c.1++c.2.1) n p)) (fun x st m cs tG=>by
  obtain⟨hA,hC,hI⟩:=tG;have lq:=hA x aj;have ba:∀ y∈st,I y:=fun y hy=>hA y (by simp [hy]);have abh:∀ v,hasL x.1 n p->hasL ((celB na x v).1++(celB na x v).2.1) n p:=fun v h=>by
   show hasL (x.1.take na++x.1.drop na) n p;rw [List.take_append_drop];exact h
  have uH:∀ v,(v=(false,0,0)\/v=lk (x.1.take na) (x.1.drop na))->∀ c∈cs++[celB na x v],celOf na lk I c:=fun v hv c hc=>by
   rcases eF.1 hc with hc | hc
   ·exact hC c hc
   rw [bD.1 hc];rcases hv with rfl | rfl
   ·exact⟨x,lq,.inl rfl⟩
   exact⟨x,lq,.inr rfl⟩
  have yB:∀ (y:List BoxT) (xh:List CelT),(∀ z∈st,z∈y)->(∀ c∈cs,c∈xh)->(hasL x.1 n p->(∃ z∈y,hasL z.1 n p)\/∃ c∈xh,hasL (c.1++c.2.1) n p)->(∃ z∈y,hasL z.1 n p)\/∃ c∈xh,hasL (c.1++c.2.1) n p:=fun y xh hy hc hx=>by
   rcases hI with⟨z,hz,g⟩ | ⟨c,nt,g⟩
   ·rcases bp.1 hz with rfl | hz
    ·exact hx g
    exact .inl ⟨z,hy z hz,g⟩
   exact .inr ⟨c,hc c nt,g⟩
  rw [stepP];split
  ·exact⟨ba,uH _ (.inl rfl),yB st _ (fun z hz=>hz) (fun c hc=>vf _ hc) (fun g=>.inr ⟨_,wj _ (bD.2 rfl),abh _ g⟩)⟩
  split
  ·rename_i hd;exact⟨ba,hC,yB st cs (fun z hz=>hz) (fun c hc=>hc) (fun g=>by rw [hk x lq g] at hd;cases hd)⟩
  split
  ·exact⟨ba,uH _ (.inr rfl),yB st _ (fun z hz=>hz) (fun c hc=>vf _ hc) (fun g=>.inr ⟨_,wj _ (bD.2 rfl),abh _ g⟩)⟩
  rename_i er;have aG:x.2.1<D:=by
   rcases cu x.2.1 D with g | g
   ·exact g
   exact absurd (doneC (x:=x) (wd:=wd) g) er
  have hh:=hH x lq aG;refine⟨fun y hy=>?_,hC,yB (loB x :: hiB x :: st) cs (fun z hz=>by simp [hz]) (fun c hc=>hc) (fun g=>?_)⟩
  ·simp only [bp] at hy;rcases hy with rfl | rfl | hy
   ·exact hh.1
   ·exact hh.2
   exact ba y hy
  rcases hasL_half hn (hl x lq) g with g | g
  ·exact .inl ⟨_,by simp,g⟩
  exact .inl ⟨_,by simp,g⟩) (muP D [x0]) (an _) (s:=([x0],0,[])) ⟨fun x hx=>by rw [bD.1 hx];exact h0,fun c hc=>(by cases hc),.inl ⟨x0,bD.2 rfl,hp⟩⟩ (endP_spec D W na wd lk ([x0],0,[]))
 obtain⟨⟨_,hC,h1⟩,h2⟩:=this;refine⟨hC,?_⟩;rcases h1 with⟨x,hx,_⟩ | h1
 ·rw [h2] at hx;cases hx
 exact h1
theorem ww_wd (wd w t:Rat):1/(wd*(w*w))*t=t/(w*w)*(1/wd):=by
 rw [cj,cj,cj,fN,fN,Rat.inv_mul_rev];grind
theorem sc_le {a b wd:Rat} (hw:0<wd) (h:a<=b*(1/wd)):a*wd<=b:=by
 have:=fM h (dp hw);have e:1/wd*wd=1:=gz ay;rwa [lU,e,iX] at this
theorem le_sc {a b wd:Rat} (hw:0<wd) (h:b*(1/wd)<=a):b<=a*wd:=by
 have:=fM h (dp hw);have e:1/wd*wd=1:=gz ay;rwa [lU,e,iX] at this
theorem slopeUw {R U V:Nat} {rows:List (List PoR)} (h:pf R U V rows) {wd:Rat} (fC:0<wd) (k:Nat) {t u y:Rat} (ht:0<=t) (jC:t<=u) (hu:u<=1) (y0:0<=y) (y1:y<=1) :
  ptK U V rows.flatten k t y+(psK U V (U-1) V (dfU U V) rows.flatten wd k).1*wd*(u-t)<=ptK U V rows.flatten k u y/\ptK U V rows.flatten k u y<=ptK U V rows.flatten k t y+(psK U V (U-1) V (dfU U V) rows.flatten wd k).2*wd*(u-t):=by
 have l1:(nmP rows.flatten k).length=(U+1)*(V+1):=by rw [nmP_len];exact h.len
 have l2:(wtP rows.flatten).length=(U+1)*(V+1):=by rw [wtP_len];exact h.len
 have s1:∀ x,evP (colT U V (nmP rows.flatten k) y) x=evT U V (nmP rows.flatten k) x y:=fun x=>evT_swap l1 x y;have s2:∀ x,evP (colT U V (wtP rows.flatten) y) x=evT U V (wtP rows.flatten) x y:=fun x=>evT_swap l2 x y;have hn:0<(colT U V (nmP rows.flatten k) y).length:=by rw [colT_len];omega
 have hw:0<(colT U V (wtP rows.flatten) y).length:=by rw [colT_len];omega
 have hW:∀ x,0<=x->x<=1->(bndP (wtP rows.flatten)).1<=evP (colT U V (wtP rows.flatten) y) x:=fun x x0 x1=>by rw [s2];exact(pf.win h x0 x1 y0 y1).1
 have key:∀ x,t<=x->x<=u->(psK U V (U-1) V (dfU U V) rows.flatten wd k).1*wd<=(evP (difP (colT U V (nmP rows.flatten k) y)) x*evP (colT U V (wtP rows.flatten) y) x-evP (colT U V (nmP rows.flatten k) y) x*evP (difP (colT U V (wtP rows.flatten) y)) x)/(evP (colT U V (wtP rows.flatten) y) x*evP (colT U V (wtP rows.flatten) y) x)
   /\ (evP (difP (colT U V (nmP rows.flatten k) y)) x*evP (colT U V (wtP rows.flatten) y) x-evP (colT U V (nmP rows.flatten k) y) x*evP (difP (colT U V (wtP rows.flatten) y)) x)/(evP (colT U V (wtP rows.flatten) y) x*evP (colT U V (wtP rows.flatten) y) x)<=(psK U V (U-1) V (dfU U V) rows.flatten wd k).2*wd:=fun x mh lR=>by
  have p:=ps_in h (cA ht mh) (cA lR hu) y0 y1 (dfS_U h.u3 h.v3) wd k;rw [ww_wd,sg_evU h] at p;rw [s1,s2];exact⟨sc_le fC p.1,le_sc fC p.2⟩
 have a:=quo_mvi hn hw h.wlo hW ht jC hu fun x a b=>(key x a b).1;have b:=quo_mvu hn hw h.wlo hW ht jC hu fun x a b=>(key x a b).2;rw [s1,s2,s1,s2] at a b;exact⟨a,b⟩
theorem slopeVw {R U V:Nat} {rows:List (List PoR)} (h:pf R U V rows) {wd:Rat} (fC:0<wd) (k:Nat) {t u x:Rat} (ht:0<=t) (jC:t<=u) (hu:u<=1) (x0:0<=x) (x1:x<=1) :
  ptK U V rows.flatten k x t+(psK U V U (V-1) (dfV U V) rows.flatten wd k).1*wd*(u-t)<=ptK U V rows.flatten k x u/\ptK U V rows.flatten k x u<=ptK U V rows.flatten k x t+(psK U V U (V-1) (dfV U V) rows.flatten wd k).2*wd*(u-t):=by
 have hn:0<(rowT U V (nmP rows.flatten k) x).length:=by rw [rowT_len];omega
 have hw:0<(rowT U V (wtP rows.flatten) x).length:=by rw [rowT_len];omega
 have hW:∀ y,0<=y->y<=1->(bndP (wtP rows.flatten)).1<=evP (rowT U V (wtP rows.flatten) x) y:=fun y y0 y1=>(pf.win h x0 x1 y0 y1).1;have key:∀ y,t<=y->y<=u->(psK U V U (V-1) (dfV U V) rows.flatten wd k).1*wd<=(evP (difP (rowT U V (nmP rows.flatten k) x)) y*evP (rowT U V (wtP rows.flatten) x) y-evP (rowT U V (nmP rows.flatten k) x) y*evP (difP (rowT U V (wtP rows.flatten) x)) y)/(evP (rowT U V (wtP rows.flatten) x) y*evP (rowT U V (wtP rows.flatten) x) y)
   /\ (evP (difP (rowT U V (nmP rows.flatten k) x)) y*evP (rowT U V (wtP rows.flatten) x) y-evP (rowT U V (nmP rows.flatten k) x) y*evP (difP (rowT U V (wtP rows.flatten) x)) y)/(evP (rowT U V (wtP rows.flatten) x) y*evP (rowT U V (wtP rows.flatten) x) y)<=(psK U V U (V-1) (dfV U V) rows.flatten wd k).2*wd:=fun y jN xD=>by
  have p:=ps_in h x0 x1 (cA ht jN) (cA xD hu) (dfS_V h.u3 h.v3) wd k;rw [ww_wd,sg_evV h] at p;exact⟨sc_le fC p.1,le_sc fC p.2⟩
 exact⟨quo_mvi hn hw h.wlo hW ht jC hu fun y a b=>(key y a b).1,quo_mvu hn hw h.wlo hW ht jC hu fun y a b=>(key y a b).2⟩
theorem slope_ex {m M wd t u:Rat} {f:Rat->Rat} (fC:0<wd) (hmM:m<=M) (h:∀ t u,0<=t->t<=u->u<=1->f t+m*wd*(u-t)<=f u/\f u<=f t+M*wd*(u-t)) (t0:0<=t) (t1:t<=1) (u0:0<=u) (u1:u<=1):∃ a,m<=a/\a<=M/\f u-f t=a*(wd*(u-t)):=by
 have main:∀ t u,0<=t->t<u->u<=1->∃ a,m<=a/\a<=M/\f u-f t=a*(wd*(u-t)):=fun t u t0 jC u1=>by
  obtain⟨a,b⟩:=h t u t0 (dp jC) u1;have hd:0<wd*(u-t):=oL fC ay;have e:(f u-f t)/(wd*(u-t))*(wd*(u-t))=f u-f t:=gz ay;refine⟨(f u-f t)/(wd*(u-t)),?_,?_,e.symm⟩
  ·refine vd.1 fun g=>?_;have:=adZ g hd;rw [e] at this;grind
  refine vd.1 fun g=>?_;have:=adZ g hd;rw [e] at this;grind
 by_cases g:t<u
 ·exact main t u t0 g u1
 by_cases g2:u<t
 ·obtain⟨a,h1,h2,h3⟩:=main u t u0 g2 t1;exact⟨a,h1,h2,by grind⟩
 have:t=u:=ay;subst this;exact⟨m,dD,hmM,by grind⟩
theorem stepU {R U V:Nat} {rows:List (List PoR)} (h:pf R U V rows) {wd:Rat} (fC:0<wd) {t u y:Rat} (t0:0<=t) (t1:t<=1) (u0:0<=u) (u1:u<=1) (y0:0<=y) (y1:y<=1) :
  ∃ a,inV (psB U V (U-1) V (dfU U V) rows.flatten wd) a/\∀ k,k<3->ptK U V rows.flatten k u y-ptK U V rows.flatten k t y=a.at k*(wd*(u-t)):=by
 have key:∀ k,∃ a,(psK U V (U-1) V (dfU U V) rows.flatten wd k).1<=a/\a<=(psK U V (U-1) V (dfU U V) rows.flatten wd k).2/\ptK U V rows.flatten k u y-ptK U V rows.flatten k t y=a*(wd*(u-t)):=fun k=>by
  have p:=ps_in h t0 t1 y0 y1 (dfS_U h.u3 h.v3) wd k;exact slope_ex (f:=fun x=>ptK U V rows.flatten k x y) fC (cA p.1 p.2) (fun t u ht jC hu=>slopeUw h fC k ht jC hu y0 y1) t0 t1 u0 u1
 obtain⟨a0,b0,c0,d0⟩:=key 0;obtain⟨a1,b1,c1,d1⟩:=key 1;obtain⟨a2,b2,c2,d2⟩:=key 2;refine⟨⟨a0,a1,a2⟩,⟨⟨b0,c0⟩,⟨b1,c1⟩,⟨b2,c2⟩⟩,fun k hk=>?_⟩
 match k,hk with
 | 0,_=>exact d0
 | 1,_=>exact d1
 | 2,_=>exact d2
theorem stepV {R U V:Nat} {rows:List (List PoR)} (h:pf R U V rows) {wd:Rat} (fC:0<wd) {t u x:Rat} (t0:0<=t) (t1:t<=1) (u0:0<=u) (u1:u<=1) (x0:0<=x) (x1:x<=1) :
  ∃ a,inV (psB U V U (V-1) (dfV U V) rows.flatten wd) a/\∀ k,k<3->ptK U V rows.flatten k x u-ptK U V rows.flatten k x t=a.at k*(wd*(u-t)):=by
 have key:∀ k,∃ a,(psK U V U (V-1) (dfV U V) rows.flatten wd k).1<=a/\a<=(psK U V U (V-1) (dfV U V) rows.flatten wd k).2/\ptK U V rows.flatten k x u-ptK U V rows.flatten k x t=a*(wd*(u-t)):=fun k=>by
  have p:=ps_in h x0 x1 t0 t1 (dfS_V h.u3 h.v3) wd k;exact slope_ex (f:=fun y=>ptK U V rows.flatten k x y) fC (cA p.1 p.2) (fun t u ht jC hu=>slopeVw h fC k ht jC hu x0 x1) t0 t1 u0 u1
 obtain⟨a0,b0,c0,d0⟩:=key 0;obtain⟨a1,b1,c1,d1⟩:=key 1;obtain⟨a2,b2,c2,d2⟩:=key 2;refine⟨⟨a0,a1,a2⟩,⟨⟨b0,c0⟩,⟨b1,c1⟩,⟨b2,c2⟩⟩,fun k hk=>?_⟩
 match k,hk with
 | 0,_=>exact d0
 | 1,_=>exact d1
 | 2,_=>exact d2
theorem ng_in {B:Bx3} {v:V3} (h:inV B v):inV (ngB B) ⟨-v.x,-v.y,-v.z⟩:=by
 obtain⟨⟨a,b⟩,⟨c,d⟩,e,f⟩:=h;exact⟨⟨by show -B.x.2<=-v.x;grind,by show -v.x<=-B.x.1;grind⟩,⟨by show -B.y.2<=-v.y;grind,by show -v.y<=-B.y.1;grind⟩,⟨by show -B.z.2<=-v.z;grind,by show -v.z<=-B.z.1;grind⟩⟩
theorem st0 {w a b:Rat} (hw:0<w) (h:w*(b-a)=0):a=b:=by
 rcases acs.1 h with g | g
 ·grind
 grind
theorem cell_inj {R U V R' W Y:Nat} {rows uG:List (List PoR)} (h:pf R U V rows) (g:pf R' W Y uG) {wu wv ws wt:Rat} (hu:0<wu) (hv:0<wv) (hs:0<ws) (ht:0<wt) {x y s t x' y' s' t':Rat}
  (hx:0<=x/\x<=1) (hy:0<=y/\y<=1) (hS:0<=s/\s<=1) (hT:0<=t/\t<=1) (yo:0<=x'/\x'<=1) (wV:0<=y'/\y'<=1) (hS':0<=s'/\s'<=1) (sW:0<=t'/\t'<=1)
  (e:∀ k,k<3->ptK U V rows.flatten k x y=ptK W Y uG.flatten k s t) (e':∀ k,k<3->ptK U V rows.flatten k x' y'=ptK W Y uG.flatten k s' t') {K:Nat}
  (hK:hasR (dtK [psB U V (U-1) V (dfU U V) rows.flatten wu,psB U V U (V-1) (dfV U V) rows.flatten wv,ngB (psB W Y (W-1) Y (dfU W Y) uG.flatten ws),ngB (psB W Y W (Y-1) (dfV W Y) uG.flatten wt)] K) 0=false)
  (hc:(K=0/\x=x')\/(K=1/\y=y')\/(K=2/\s=s')\/(K=3/\t=t')):x=x'/\y=y'/\s=s'/\t=t':=by
 obtain⟨a,ia,ea⟩:=stepU h hu hx.1 hx.2 yo.1 yo.2 wV.1 wV.2;obtain⟨b,ib,eb⟩:=stepV h hv hy.1 hy.2 wV.1 wV.2 hx.1 hx.2;obtain⟨c,ic,ec⟩:=stepU g hs hS.1 hS.2 hS'.1 hS'.2 sW.1 sW.2;obtain⟨d,vL,ed⟩:=stepV g ht hT.1 hT.2 sW.1 sW.2 hS.1 hS.2;have nc:=ng_in ic;have nd:=ng_in vL;have sum:∀ k,k<3->a.at k*(wu*(x'-x))+b.at k*(wv*(y'-y))-c.at k*(ws*(s'-s))-d.at k*(wt*(t'-t))=0:=fun k hk=>by
  have h1:=ea k hk;have h2:=eb k hk;have h3:=ec k hk;have h4:=ed k hk;have h5:=e k hk;have h6:=e' k hk;rw [<-h1,<-h2,<-h3,<-h4];grind
 have q0:a.x*(wu*(x'-x))+b.x*(wv*(y'-y))-c.x*(ws*(s'-s))-d.x*(wt*(t'-t))=0:=sum 0 ae;have q1:a.y*(wu*(x'-x))+b.y*(wv*(y'-y))-c.y*(ws*(s'-s))-d.y*(wt*(t'-t))=0:=sum 1 ae;have q2:a.z*(wu*(x'-x))+b.z*(wv*(y'-y))-c.z*(ws*(s'-s))-d.z*(wt*(t'-t))=0:=sum 2 ae;have z:∀ w p:Rat,w*(p-p)=0:=fun w p=>by grind
 rcases hc with⟨rfl,rfl⟩ | ⟨rfl,rfl⟩ | ⟨rfl,rfl⟩ | ⟨rfl,rfl⟩
 ·rw [z] at q0 q1 q2;obtain⟨f1,f2,f3⟩:=box_inj (x:=wv*(y'-y)) (y:=ws*(s'-s)) (z:=wt*(t'-t)) hK ib nc nd (by show b.x*_+-c.x*_+-d.x*_=0;grind) (by show b.y*_+-c.y*_+-d.y*_=0;grind) (by show b.z*_+-c.z*_+-d.z*_=0;grind);exact⟨rfl,st0 hv f1,st0 hs f2,st0 ht f3⟩
 ·rw [z wv] at q0 q1 q2;obtain⟨f1,f2,f3⟩:=box_inj (x:=wu*(x'-x)) (y:=ws*(s'-s)) (z:=wt*(t'-t)) hK ia nc nd (by show a.x*_+-c.x*_+-d.x*_=0;grind) (by show a.y*_+-c.y*_+-d.y*_=0;grind) (by show a.z*_+-c.z*_+-d.z*_=0;grind);exact⟨st0 hu f1,rfl,st0 hs f2,st0 ht f3⟩
 ·rw [z ws] at q0 q1 q2;obtain⟨f1,f2,f3⟩:=box_inj (x:=wu*(x'-x)) (y:=wv*(y'-y)) (z:=wt*(t'-t)) hK ia ib nd (by show a.x*_+b.x*_+-d.x*_=0;grind) (by show a.y*_+b.y*_+-d.y*_=0;grind) (by show a.z*_+b.z*_+-d.z*_=0;grind);exact⟨st0 hu f1,st0 hv f2,rfl,st0 ht f3⟩
 rw [z wt] at q0 q1 q2;obtain⟨f1,f2,f3⟩:=box_inj (x:=wu*(x'-x)) (y:=wv*(y'-y)) (z:=ws*(s'-s)) hK ia ib nc (by show a.x*_+b.x*_+-c.x*_=0;grind) (by show a.y*_+b.y*_+-c.y*_=0;grind) (by show a.z*_+b.z*_+-c.z*_=0;grind);exact⟨st0 hu f1,st0 hv f2,st0 hs f3,rfl⟩
theorem cdQ.mono {D N M:Nat} {x:Rat} (h:cdQ D N x) (hN:N<=M):cdQ D M x:=by
 obtain⟨z,e,g⟩:=h;exact⟨z,e,J⟩
theorem cdQ_int {z:Int} {N:Nat} (h:z.natAbs<=N):cdQ 1 N (z:Rat):=⟨z,by rw [show (((1:Nat):Int):Rat)=1 from rfl,iX],h⟩
theorem cdQ.mulQ {D N E M:Nat} {x y:Rat} (h:cdQ D N x) (g:cdQ E M y):cdQ (D*E) (N*M) (x*y):=by
 obtain⟨z,e,hz⟩:=h;obtain⟨u,f,hu⟩:=g;refine⟨z*u,?_,?_⟩
 ·rw [castN,lI,<-e,<-f];grind
 rw [ur];exact cx hz hu
theorem cdQ.addQ {D N M:Nat} {x y:Rat} (h:cdQ D N x) (g:cdQ D M y):cdQ D (N+M) (x+y):=by
 obtain⟨z,e,hz⟩:=h;obtain⟨u,f,hu⟩:=g;refine⟨z+u,?_,?_⟩
 ·rw [Rat.intCast_add,<-e,<-f];grind
 have:=Int.natAbs_add_le z u;omega
theorem cdQ.subQ {D N M:Nat} {x y:Rat} (h:cdQ D N x) (g:cdQ D M y):cdQ D (N+M) (x-y):=by
 obtain⟨z,e,hz⟩:=h;obtain⟨u,f,hu⟩:=g;refine⟨z-u,?_,?_⟩
 ·rw [acx,<-e,<-f];grind
 have:=Int.natAbs_sub_le z u;omega
theorem cdQ_wt {D N:Nat} {w:Rat} (h:cdQ D N w) (h0:0<w) (hD:0<D):∃ M:Nat,0<M/\M<=N/\w*((D:Int):Rat)=((M:Int):Rat):=by
 obtain⟨z,e,g⟩:=h;have hz:0<z:=ou.1 (by rw [<-e];exact oL h0 (posN hD));exact⟨z.toNat,J,J,by rw [e,qe J]⟩
theorem cdQ.scale {D N E:Nat} {x:Rat} (h:cdQ D N x):cdQ (D*E) (N*E) x:=by
 obtain⟨z,e,g⟩:=h;refine⟨z*(E:Int),?_,?_⟩
 ·rw [castN,<-lU,e,lI]
 rw [ur,Int.natAbs_natCast];exact Nat.mul_le_mul_right _ g
theorem nb_cd (l:List Int) (k:Nat):cdQ 12 72 (nbV l k).1:=by
 have h1:=nxV_lt (l:=l) (k:=k) (n:=13) ae;have h2:=nxV_lt (l:=l) (k:=nxK l (nxK l k)) (n:=4) ae;unfold nbV;split
 ·show cdQ 12 72 (((nxV l k 13-6:Int):Rat)/((1+nxV l (nxK l (nxK l k)) 4:Int):Rat));generalize nxV l k 13=u at *
  generalize nxV l (nxK l (nxK l k)) 4=v at *
  have hv:v=0\/v=1\/v=2\/v=3:=J;rcases hv with rfl | rfl | rfl | rfl
  ·refine⟨(u-6)*12,?_,J⟩;rw [lI,show ((1+0:Int):Rat)=1 by decide +kernel,show (((12:Nat):Int):Rat)=12 by decide +kernel,show ((12:Int):Rat)=12 by decide +kernel];generalize ((u-6:Int):Rat)=x;grind
  ·refine⟨(u-6)*6,?_,J⟩;rw [lI,show ((1+1:Int):Rat)=2 by decide +kernel,show (((12:Nat):Int):Rat)=12 by decide +kernel,show ((6:Int):Rat)=6 by decide +kernel];generalize ((u-6:Int):Rat)=x;grind
  ·refine⟨(u-6)*4,?_,J⟩;rw [lI,show ((1+2:Int):Rat)=3 by decide +kernel,show (((12:Nat):Int):Rat)=12 by decide +kernel,show ((4:Int):Rat)=4 by decide +kernel];generalize ((u-6:Int):Rat)=x;grind
  refine⟨(u-6)*3,?_,J⟩;rw [lI,show ((1+3:Int):Rat)=4 by decide +kernel,show (((12:Nat):Int):Rat)=12 by decide +kernel,show ((3:Int):Rat)=3 by decide +kernel];generalize ((u-6:Int):Rat)=x;grind
 exact((cdQ_int (N:=6) (show (nxV l k 13-6).natAbs<=6 by omega)).scale (E:=12)).mono ae
theorem dw_cd (l:List Int) (k:Nat):cdQ 1 3 (dwV l k):=by
 have:=dw_in l k;exact cdQ_int J
theorem d3_cd (l:List Int) (k:Nat):cdQ 12 72 (d3V l k).x/\cdQ 12 72 (d3V l k).y/\cdQ 12 72 (d3V l k).z:=⟨nb_cd _ _,nb_cd _ _,nb_cd _ _⟩
def smR (q:PoR):Prop:=(∀ n,cdQ 96 2000 (qc (hoQ q) n))/\0<q.w
theorem cd_eighth:cdQ 8 1 (((1:Int):Rat)/((8:Int):Rat))/\cdQ 8 2 (((1:Int):Rat)/((4:Int):Rat)):=⟨⟨1,by decide +kernel,by decide⟩,⟨2,by decide +kernel,by decide⟩⟩
theorem gp_cd (l:List Int) (k:Nat) (w:Bool) {i j:Nat} (hi:i<=2) (hj:j<=2):smR (gpV w i j (dpV l k)):=by
 obtain⟨c0,c1,c2⟩:=d3_cd l k;have hw:=dw_cd l (d3K l k);have hp:=dw_pos l (d3K l k);have wq:cdQ 96 2000 (dwV l (d3K l k)):=(hw.scale (E:=96)).mono ae
 cases w with
 | true =>
  have m:∀ {x:Rat},cdQ 12 72 x->cdQ 96 2000 (dwV l (d3K l k)*x):=fun h=>((hw.mulQ h).scale (E:=8)).mono ae;refine⟨fun n=>?_,hp⟩
  match n with
  | 0=>exact m c0
  | 1=>exact m c1
  | 2=>exact m c2
  | n+3=>exact wq
 | false =>
  obtain⟨e8,e4⟩:=cd_eighth;have a:∀ {x:Rat} {t:Nat},t<=2->cdQ 12 72 x->cdQ 96 2000 (dwV l (d3K l k)*(((2*(t:Int):Int):Rat)+x*(((1:Int):Rat)/((8:Int):Rat)))):=fun {x t} ht h=>by
   have h1:cdQ 96 384 ((2*(t:Int):Int):Rat):=((cdQ_int (N:=4) (show (2*(t:Int)).natAbs<=4 by omega)).scale (E:=96)).mono ae;have h2:cdQ 96 72 (x*(((1:Int):Rat)/((8:Int):Rat))):=h.mulQ e8;exact(hw.mulQ (h1.addQ h2)).mono ae
  have b:cdQ 96 2000 (dwV l (d3K l k)*((d3V l k).z*(((1:Int):Rat)/((4:Int):Rat)))):=(hw.mulQ (c2.mulQ e4)).mono ae;refine⟨fun n=>?_,hp⟩
  match n with
  | 0=>exact a hi c0
  | 1=>exact a hj c1
  | 2=>exact b
  | n+3=>exact wq
theorem srV_sm (l:List Int) (w:Bool) {i:Nat} (hi:i<=2):∀ c j k,j+c<=3->∀ q∈srV l w i j c k,smR q
 | 0,_,_,_,q,h=>by simp [srV] at h
 | c+1,j,k,hj,q,h=>by
  rw [srV] at h;rcases bp.1 h with rfl | h
  ·exact gp_cd l k w hi J
  exact srV_sm l w hi c (j+1) _ J q h
theorem ssV_sm (l:List Int) (w:Bool) {b:Nat} (hb:b<=3):∀ c i k,i+c<=3->∀ r∈ssV l w b i c k,r.length=b/\∀ q∈r,smR q
 | 0,_,_,_,r,h=>by simp [ssV] at h
 | c+1,i,k,hi,r,h=>by
  rw [ssV] at h;rcases bp.1 h with rfl | h
  ·exact⟨srV_len l w i b 0 k,srV_sm l w J b 0 k J⟩
  exact ssV_sm l w hb c (i+1) _ J r h
theorem sv_sm {U V:Nat} {rows:List (List PoR)} (hn:rows.length=U+1) (hr:∀ r∈rows,r.length=V+1/\∀ q∈r,smR q):svC U V rows 96 2000:=by
 have e:∀ i j,i<=U->j<=V->smR ((rows.getD i []).getD j default):=fun i j hi hj=>by
  have hi2:i<rows.length:=J;have hm:=hr _ (fY hi2);have bo:j<(rows[i]).length:=J;rw [ao (l:=rows),aB hi2,iY,ao,aB bo,iY];exact hm.2 _ (fY bo)
 exact⟨hn,fun r h=>(hr r h).1,fun k i j hi hj=>(e i j hi hj).1 k,fun i j hi hj=>(e i j hi hj).2⟩
def pTU (l:List Int) (k n:Nat):Rat:=dtV l (sJ2 l k)
def pTV (l:List Int) (k n:Nat):Rat:=dtV l (sJ3 l k n 0)
theorem kiN_0 (l:List Int) (k:Nat):kiN l k 0=0:=Nat.le_zero.1 (kiN_in l k 0).2
theorem knX_0 (l:List Int) (d k:Nat):knX l d k 0=kn2 d (dtV l k) (dtV l k+1):=by
 unfold knX kiR;rw [kiN_0];rfl
theorem pKU_eq (l:List Int) (k n:Nat):sKU l k n 0=kn2 (sU l k n) (pTU l k n) (pTU l k n+1):=knX_0 ..
theorem pKV_eq (l:List Int) (k n:Nat):sKV l k n 0=kn2 (sV l k n) (pTV l k n) (pTV l k n+1):=knX_0 ..
theorem par_one (T x:Rat):(T+x-T)/(T+1-T)=x:=by rw [wid1,div1];grind
theorem lt_one (T:Rat):T<T+1:=ay
theorem bdB.le {R S:Nat} {b:Bx3} (h:bdB R b) (k:R<=S):bdB S b:=⟨h.1.le k,h.2.1.le k,h.2.2.le k⟩
structure drS (U V:Nat) (S T:Rat) (rows:List (List PoR)):Prop where
 u1:1<=U
 u2:U<=2
 v1:1<=V
 v2:V<=2
 n:rows.length=U+1
 sm:∀ r∈rows,r.length=V+1/\∀ q∈r,smR q
 s1:rl S<=1
 t1:rl T<=1
theorem drS.sv {U V:Nat} {S T:Rat} {rows:List (List PoR)} (h:drS U V S T rows):svC U V rows 96 2000:=sv_sm h.n h.sm
theorem drS.pf {U V:Nat} {S T:Rat} {rows:List (List PoR)} (h:drS U V S T rows):pf 1 U V rows:=by
 have:=h.u2;have:=h.v2;exact h.sv.pf (k:=1) ae ae ae ae ae h.u1 J h.v1 J
theorem dr_surf {l:List Int} {k:Nat} (hl:l.length<=500) (hk:k<=500):∃ (U V:Nat) (S T:Rat) (rows:List (List PoR)) (k2:Nat),k2<=500/\drS U V S T rows/\CallOKM aa 25 ⟨2,[diceL l k],true⟩ [.eptr 0 2 0 0,iL 2,iL 0] (.agg [nI64 U,nI64 V,.list 3 ((kn2 U S (S+1)).map ratL),.list 3 ((kn2 V T (T+1)).map ratL),.list 1 (rows.map prL)]) ⟨2,[diceL l k2],true⟩:=by
 have hS:=c_DSurface l k hl 2 ae ae 0 ae hk;have h:=s_in l hl hk (show 0<2 by decide) (show 2<=6 by decide) (show 0<=2 by decide);rw [pKU_eq l k 2,pKV_eq l k 2] at hS;have hu:=h.un;have hv:=h.vn;have ha:sA l k 2 0=sU l k 2+1:=by unfold sA;rw [kiN_0]
 have hb:sB l k 2 0=sV l k 2+1:=by unfold sB;rw [kiN_0]
 have hsm:=ssV_sm l (sWd l k 2 0) (b:=sB l k 2 0) J (sA l k 2 0) 0 (nxK l (sJ4 l k 2 0)) J;refine⟨sU l k 2,sV l k 2,pTU l k 2,pTV l k 2,sR l k 2 0,sE l k 2 0,ssK_le hl _ _ _ h.j5,⟨h.u1,hu,h.v1,hv,by rw [h.rl,ha],fun r hr=>?_,(dt_rl l _).1,(dt_rl l _).1⟩,hS⟩;have:=hsm r hr;exact⟨by rw [this.1,hb],this.2⟩
def afS (a b:Rat) (s:Sp):Sp:=(a+(b-a)*s.1,a+(b-a)*s.2)
theorem halfQ (x:Rat):x/2*2=x:=gz ae
theorem afS_md (a b:Rat) (s:Sp):mdS (afS a b s)=a+(b-a)*mdS s:=by
 have h1:=halfQ (s.1+s.2);have h2:=halfQ (a+(b-a)*s.1+(a+(b-a)*s.2));show (a+(b-a)*s.1+(a+(b-a)*s.2))/2=a+(b-a)*((s.1+s.2)/2);grind
theorem afS_lo (a b:Rat) (s:Sp):loS (afS a b s)=afS a b (loS s):=by
 have:=afS_md a b s;unfold loS;rw [this];rfl
theorem afS_hi (a b:Rat) (s:Sp):hiS (afS a b s)=afS a b (hiS s):=by
 have:=afS_md a b s;unfold hiS;rw [this];rfl
theorem afS_one (a b:Rat):afS a b one01=(a,b):=by
 show (a+(b-a)*0,a+(b-a)*1)=(a,b);rw [show a+(b-a)*0=a by grind,show a+(b-a)*1=b by grind]
theorem af_own {a b:Rat} (h:a<b) (x:Rat):(a+(b-a)*x-a)/(b-a)=x:=by
 have hn:b-a≠0:=ay;rw [show a+(b-a)*x-a=x*(b-a) by grind,mc hn]
theorem af_lt {a b x y:Rat} (h:a<b) (hx:x<y):a+(b-a)*x<a+(b-a)*y:=by
 have h1:0<b-a:=ay;have h2:0<y-x:=ay;have:=oL h1 h2;grind
theorem af_le {a b x y:Rat} (h:a<b) (hx:x<=y):a+(b-a)*x<=a+(b-a)*y:=by
 have h1:0<=b-a:=ay;have h2:0<=y-x:=ay;have:=cO h1 h2;grind
theorem af_in {a b x:Rat} (h:a<b) (h0:0<=x) (h1:x<=1):a<=a+(b-a)*x/\a+(b-a)*x<=b:=by
 have e1:=af_le h h0;have e2:=af_le h h1;constructor<;>grind
theorem af_rl {a b x:Rat} {A:Nat} (ha:Go.Lg.rl a<=A) (hb:Go.Lg.rl b<=A) (hx:Go.Lg.rl x<=1):Go.Lg.rl (a+(b-a)*x)<=3*A+5:=by
 have h1:=rl_sub b a;have h2:=rl_mul (b-a) x;have h3:=rl_add a ((b-a)*x);omega
theorem meS_of {s t:Rat × Rat} {x:Rat} (h1:s.1<=x/\x<=s.2) (h2:t.1<=x/\x<=t.2):meS s t=true:=by
 unfold meS;refine decide_eq_true ?_;unfold mxR mnR;split<;>split<;>grind
theorem own_in {a b t:Rat} (h:a<b) (h1:a<=t) (h2:t<=b):0<=(t-a)/(b-a)/\(t-a)/(b-a)<=1:=by
 have hp:0<b-a:=ay;have hi:=(inv_mono hp dD).1;have hr:1/(b-a)*(b-a)=1:=gz ay;have e:(t-a)/(b-a)=1/(b-a)*(t-a):=by rw [cj,cj,fN,iF]
 have m1:=cO (dp hi) (show 0<=t-a by grind);have m2:=cO (dp hi) (show 0<=b-t by grind);rw [e];generalize 1/(b-a)=r at *
 constructor
 ·exact m1
 have:r*(b-t)=r*(b-a)-r*(t-a):=ay;rw [this,hr] at m2;grind
section
variable {R U V:Nat} {rows:List (List PoR)} (h:pf R U V rows)
include h
theorem pc4_nm {k i j:Nat} (hk:k<3) (hi:i<=U) (hj:j<=V):(nmP rows.flatten k).getD (i*(V+1)+j) 0=pc4 rows k i j:=by
 rw [nm_get (by rw [h.len];exact ix_lt hi hj),flat_get h.m i j (by rw [h.n];omega) J]
 match k,hk with
 | 0,_=>rfl
 | 1,_=>rfl
 | 2,_=>rfl
theorem pc4_wt {i j:Nat} (hi:i<=U) (hj:j<=V):(wtP rows.flatten).getD (i*(V+1)+j) 0=pc4 rows 3 i j:=by
 rw [wt_get (by rw [h.len];exact ix_lt hi hj),flat_get h.m i j (by rw [h.n];omega) J];rfl
theorem evT_pc {k:Nat} (hk:k<3) (x y:Rat):evT U V (nmP rows.flatten k) x y=evF U V (pc4 rows k) x y:=by
 rw [evT_F];exact evF_congr x y fun i j hi hj=>pc4_nm h hk hi hj
theorem evT_pw (x y:Rat):evT U V (wtP rows.flatten) x y=evF U V (pc4 rows 3) x y:=by
 rw [evT_F];exact evF_congr x y fun i j hi hj=>pc4_wt h hi hj
end
theorem fE_pc (u p q:Rat) (V j:Nat):∀ (n:Nat) (g:Nat->Nat->Rat),fE (1-u) u n (fun i=>pcV p q V (g i) j)=pcV p q V (fun j'=>fE (1-u) u n (fun i=>g i j')) j
 | 0,g=>rfl
 | n+1,g=>by
  have e:fE (1-u) u n (fun i=>(1-u)*pcV p q V (g i) j+u*pcV p q V (g (i+1)) j)=fE (1-u) u n (fun i=>pcV p q V (fun j'=>(1-u)*g i j'+u*g (i+1) j') j):=fE_congr _ _ _ _ _ fun i _=>(pc_lin ..).symm;show fE (1-u) u n (fun i=>(1-u)*pcV p q V (g i) j+u*pcV p q V (g (i+1)) j)=_;rw [e,fE_pc u p q V j n];rfl
theorem evF_pcT (U V:Nat) (s t:Sp) (c:Nat->Nat->Rat) (x y:Rat):evF U V (pcT U V s t c) x y=evF U V c (s.1+x*(s.2-s.1)) (t.1+y*(t.2-t.1)):=by
 have inner:∀ j,fE (1-x) x U (fun i=>pcT U V s t c i j)=pcV t.1 t.2 V (fun j'=>sI (s.1+x*(s.2-s.1)) U (fun i'=>c i' j') 0) j:=fun j=>by
  show fE (1-x) x U (fun i=>pcV t.1 t.2 V ((fun i j'=>pcV s.1 s.2 U (fun i'=>c i' j') i) i) j)=_;rw [fE_pc x t.1 t.2 V j U (fun i j'=>pcV s.1 s.2 U (fun i'=>c i' j') i)];congr 1;funext j';rw [<-pc_ev,sI_fE];simp only [cJ]
 have z:∀ (t:Rat) (n:Nat) (f:Nat->Rat),sI t n f 0=fE (1-t) t n f:=fun t n f=>by rw [sI_fE];simp only [cJ]
 unfold evF;rw [fE_congr _ _ _ _ _ fun j _=>inner j,<-z,pc_ev,z];exact fE_congr _ _ _ _ _ fun j _=>z _ _ _
theorem part_ptK {R S U V:Nat} {rows P:List (List PoR)} (h:pf R U V rows) (g:pf S U V P) {s t:Sp} (co:∀ n i j,i<=U->j<=V->pc4 P n i j=pcT U V s t (pc4 rows n) i j) {k:Nat} (hk:k<3) (x y:Rat) :
  ptK U V P.flatten k x y=ptK U V rows.flatten k (s.1+x*(s.2-s.1)) (t.1+y*(t.2-t.1)):=by
 unfold ptK;rw [evT_pc g hk,evT_pw g,evT_pc h hk,evT_pw h,evF_congr x y fun i j hi hj=>co k i j hi hj,evF_congr x y fun i j hi hj=>co 3 i j hi hj,evF_pcT,evF_pcT]
theorem pe_ptK (U V:Nat) (F:List PoR) (x y:Rat) {k:Nat} (hk:k<3):(peV U V F x y).at k=ptK U V F k x y:=by
 have e:∀ w n:Rat,1/w*n=n/w:=fun w n=>by rw [cj,cj,fN,iF]
 match k,hk with
 | 0,_=>exact e _ _
 | 1,_=>exact e _ _
 | 2,_=>exact e _ _
theorem own_af {a b t:Rat} {σ:Sp} (aW:a<b) (hl:σ.1<σ.2):σ.1+(t-(afS a b σ).1)/((afS a b σ).2-(afS a b σ).1)*(σ.2-σ.1)=(t-a)/(b-a):=by
 have hW:b-a≠0:=ay;have aG:(afS a b σ).1<(afS a b σ).2:=af_lt aW hl;have hD:(afS a b σ).2-(afS a b σ).1=(b-a)*(σ.2-σ.1):=by
  show a+(b-a)*σ.2-(a+(b-a)*σ.1)=_;grind
 have vO:(afS a b σ).2-(afS a b σ).1≠0:=ay;have e1:(t-(afS a b σ).1)/((afS a b σ).2-(afS a b σ).1)*((afS a b σ).2-(afS a b σ).1)=t-(afS a b σ).1:=gz vO;have e2:(t-a)/(b-a)*(b-a)=t-a:=gz hW;have e3:(afS a b σ).1=a+(b-a)*σ.1:=rfl;have e4:(σ.1+(t-(afS a b σ).1)/((afS a b σ).2-(afS a b σ).1)*(σ.2-σ.1))*(b-a)=(t-a)/(b-a)*(b-a):=by
  rw [e2];rw [hD] at e1;rw [hD,e3];rw [e3] at e1;generalize (t-(a+(b-a)*σ.1))/((b-a)*(σ.2-σ.1))=z at *
  grind
 have e5:=congrArg (·/(b-a)) e4;simp only [mc hW] at e5;exact e5
structure PaT where
 U:Nat
 V:Nat
 a:Rat
 b:Rat
 c:Rat
 d:Rat
 r:List (List PoR)
structure kPa (q:PaT) (Dp D N:Nat):Prop where
 u1:1<=q.U
 u3:q.U<=3
 v1:1<=q.V
 v3:q.V<=3
 hu:q.a<q.b
 hv:q.c<q.d
 ra:rl q.a<=9
 rb:rl q.b<=9
 rc:rl q.c<=9
 rd:rl q.d<=9
 sv:svC q.U q.V q.r D N
 D0:0<D
 hN:N*(2 ^ Dp) ^ q.U*(2 ^ Dp) ^ q.V<4294967296 ^ 4
 hD:D*(2 ^ Dp) ^ q.U*(2 ^ Dp) ^ q.V<4294967296 ^ 4
theorem kPa.n4 {q:PaT} {Dp D N:Nat} (h:kPa q Dp D N):N<4294967296 ^ 4/\D<4294967296 ^ 4:=by
 have p:∀ n,0<(2 ^ Dp) ^ n:=fun n=>dU (dU ae);have le:∀ x,x<=x*(2 ^ Dp) ^ q.U*(2 ^ Dp) ^ q.V:=fun x=>aw (mq x (p _)) (mq _ (p _));exact⟨jW (le N) h.hN,jW (le D) h.hD⟩
theorem kPa.pf {q:PaT} {Dp D N:Nat} (h:kPa q Dp D N):pf 4 q.U q.V q.r:=h.sv.pf (k:=4) h.D0 h.n4.1 h.n4.2 ae ae h.u1 h.u3 h.v1 h.v3
def paC (q:PaT) (s t:Sp):List (List PoR):=ctS q.U q.V q.a q.b q.c q.d q.r s.1 s.2 t.1 t.2
def paX (q:PaT) (s t:Sp):Bx3:=bxP ((paC q s t).flatten.map (·.p))
def paU (q:PaT) (s t:Sp):Bx3:=psB q.U q.V (q.U-1) q.V (dfU q.U q.V) (paC q s t).flatten (s.2-s.1)
def paV (q:PaT) (s t:Sp):Bx3:=psB q.U q.V q.U (q.V-1) (dfV q.U q.V) (paC q s t).flatten (t.2-t.1)
def frB (p q:PaT) (s t u v:Sp):List Bx3:=[paU p s t,paV p s t,ngB (paU q u v),ngB (paV q u v)]
def kB:Bool->Bool->Bool->Bool->Nat
 | false,_,_,_=>0
 | true,false,_,_=>1
 | true,true,false,_=>2
 | true,true,true,false=>3
 | true,true,true,true=>4
def kS (l:List Bx3):Nat:=kB (hasR (dtK l 0) 0) (hasR (dtK l 1) 0) (hasR (dtK l 2) 0) (hasR (dtK l 3) 0)
theorem kS_spec (l:List Bx3):kS l<=4/\(∀ k,k<kS l->hasR (dtK l k) 0=true)/\(kS l<4->hasR (dtK l (kS l)) 0=false):=by
 unfold kS;have key:∀ (f:Nat->Bool),kB (f 0) (f 1) (f 2) (f 3)<=4/\(∀ k,k<kB (f 0) (f 1) (f 2) (f 3)->f k=true)/\(kB (f 0) (f 1) (f 2) (f 3)<4->f (kB (f 0) (f 1) (f 2) (f 3))=false):=fun f=>by
  obtain⟨a,ha⟩:∃ a,f 0=a:=⟨_,rfl⟩;obtain⟨b,hb⟩:∃ a,f 1=a:=⟨_,rfl⟩;obtain⟨c,hc⟩:∃ a,f 2=a:=⟨_,rfl⟩;obtain⟨d,hd⟩:∃ a,f 3=a:=⟨_,rfl⟩;rw [ha,hb,hc,hd]
  cases a with
  | false=>exact⟨by show 0<=4;decide,fun k hk=>absurd hk (Nat.not_lt_zero k),fun _=>ha⟩
  | true =>
   cases b with
   | false=>exact⟨by show 1<=4;decide,fun k hk=>by rw [show k=0 from Nat.lt_one_iff.1 hk];exact ha,fun _=>hb⟩
   | true =>
    cases c with
    | false=>exact⟨by show 2<=4;decide,fun k hk=>by
      have hk:k<2:=hk;rcases(show k=0\/k=1 by omega) with rfl | rfl
      ·exact ha
      exact hb,fun _=>hc⟩
    | true =>
     cases d with
     | false=>exact⟨by decide,fun k hk=>by
       have hk:k<3:=hk;rcases(show k=0\/k=1\/k=2 by omega) with rfl | rfl | rfl
       ·exact ha
       ·exact hb
       exact hc,fun _=>hd⟩
     | true=>exact⟨by decide,fun k hk=>by
       have hk:k<4:=hk;rcases(show k=0\/k=1\/k=2\/k=3 by omega) with rfl | rfl | rfl | rfl
       ·exact ha
       ·exact hb
       ·exact hc
       exact hd,fun h=>absurd h ae⟩
 exact key fun k=>hasR (dtK l k) 0
def lkT (p q:PaT):LookT:=fun A B=>lkS (paX p (A.getD 0 default) (A.getD 1 default)) (paX q (B.getD 0 default) (B.getD 1 default)) (kS (frB p q (A.getD 0 default) (A.getD 1 default) (B.getD 0 default) (B.getD 1 default)))
theorem lkS_le (X Y:Bx3) {K:Nat} (hK:K<=4):(lkS X Y K).2.1<=4/\(lkS X Y K).2.2<=4:=by
 unfold lkS tsV;split
 ·split
  ·exact⟨an _,hK⟩
  exact⟨az _,az _⟩
 exact⟨az _,az _⟩
def agJ (D:Nat) (p q:PaT) (x:BoxT):Prop:=∃ (s t u v:Sp) (i j k l:Int),x.1=[afS p.a p.b s,afS p.c p.d t,afS q.a q.b u,afS q.c q.d v]/\x.2.2=[i,j,k,l]/\((0<=i/\i<=x.2.1)/\(0<=j/\j<=x.2.1)/\(0<=k/\k<=x.2.1)/\0<=l/\l<=x.2.1)/\x.2.1<=D/\sgS x.2.1 s/\sgS x.2.1 t/\sgS x.2.1 u/\sgS x.2.1 v
theorem agJ_beg (D:Nat) (p q:PaT):agJ D p q ([(p.a,p.b),(p.c,p.d)]++[(q.a,q.b),(q.c,q.d)],0,ai 4 0):=by
 have h0:dyQ 0 (0:Rat):=dyQ_int 0;have h1:dyQ 0 (1:Rat):=dyQ_int 1;have s1:sgS 0 one01:=⟨h0,h1,by decide +kernel,by decide +kernel,by decide +kernel⟩;have z:(0:Int)<=0/\(0:Int)<=((0:Nat):Int):=⟨abn _,abn _⟩;refine⟨one01,one01,one01,one01,0,0,0,0,?_,rfl,⟨z,z,z,z⟩,az _,s1,s1,s1,s1⟩;rw [afS_one,afS_one,afS_one,afS_one];rfl
theorem agJ_half {D:Nat} {p q:PaT} {x:BoxT} (h:agJ D p q x) (hd:x.2.1<D):agJ D p q (loB x)/\agJ D p q (hiB x):=by
 obtain⟨s,t,u,v,i,j,k,l,e,f,⟨⟨i1,i2⟩,⟨j1,j2⟩,⟨k1,k2⟩,l1,l2⟩,_,hs,ht,hu,hv⟩:=h;have ha:atB x=0\/atB x=1\/atB x=2\/atB x=3:=by
  have:=lstA_lt (t:=x.2.2) x.2.2.length (an _) (by rw [f];exact Nat.succ_pos _);have hl:x.2.2.length=4:=by rw [f];rfl
  unfold atB;omega
 have c1:∀ n:Int,n<=x.2.1->n+1<=((x.2.1+1:Nat):Int):=fun n h=>by omega
 have c2:∀ n:Int,n<=x.2.1->n<=((x.2.1+1:Nat):Int):=fun n h=>by omega
 unfold loB hiB hafB;rcases ha with g | g | g | g
 ·rw [g,e,f];exact⟨⟨loS s,t,u,v,i+1,j,k,l,by rw [<-afS_lo];rfl,rfl,⟨⟨J,c1 i i2⟩,⟨j1,c2 j j2⟩,⟨k1,c2 k k2⟩,l1,c2 l l2⟩,hd,hs.half.1,ht.succ,hu.succ,hv.succ⟩,
   ⟨hiS s,t,u,v,i+1,j,k,l,by rw [<-afS_hi];rfl,rfl,⟨⟨J,c1 i i2⟩,⟨j1,c2 j j2⟩,⟨k1,c2 k k2⟩,l1,c2 l l2⟩,hd,hs.half.2,ht.succ,hu.succ,hv.succ⟩⟩
 ·rw [g,e,f];exact⟨⟨s,loS t,u,v,i,j+1,k,l,by rw [<-afS_lo];rfl,rfl,⟨⟨i1,c2 i i2⟩,⟨J,c1 j j2⟩,⟨k1,c2 k k2⟩,l1,c2 l l2⟩,hd,hs.succ,ht.half.1,hu.succ,hv.succ⟩,
   ⟨s,hiS t,u,v,i,j+1,k,l,by rw [<-afS_hi];rfl,rfl,⟨⟨i1,c2 i i2⟩,⟨J,c1 j j2⟩,⟨k1,c2 k k2⟩,l1,c2 l l2⟩,hd,hs.succ,ht.half.2,hu.succ,hv.succ⟩⟩
 ·rw [g,e,f];exact⟨⟨s,t,loS u,v,i,j,k+1,l,by rw [<-afS_lo];rfl,rfl,⟨⟨i1,c2 i i2⟩,⟨j1,c2 j j2⟩,⟨J,c1 k k2⟩,l1,c2 l l2⟩,hd,hs.succ,ht.succ,hu.half.1,hv.succ⟩,
   ⟨s,t,hiS u,v,i,j,k+1,l,by rw [<-afS_hi];rfl,rfl,⟨⟨i1,c2 i i2⟩,⟨j1,c2 j j2⟩,⟨J,c1 k k2⟩,l1,c2 l l2⟩,hd,hs.succ,ht.succ,hu.half.2,hv.succ⟩⟩
 rw [g,e,f];exact⟨⟨s,t,u,loS v,i,j,k,l+1,by rw [<-afS_lo];rfl,rfl,⟨⟨i1,c2 i i2⟩,⟨j1,c2 j j2⟩,⟨k1,c2 k k2⟩,J,c1 l l2⟩,hd,hs.succ,ht.succ,hu.succ,hv.half.1⟩,
  ⟨s,t,u,hiS v,i,j,k,l+1,by rw [<-afS_hi];rfl,rfl,⟨⟨i1,c2 i i2⟩,⟨j1,c2 j j2⟩,⟨k1,c2 k k2⟩,J,c1 l l2⟩,hd,hs.succ,ht.succ,hu.succ,hv.half.2⟩⟩
theorem sgS.up {n D:Nat} {s:Sp} (hn:n<=D) (h:sgS n s):sgS D s:=⟨h.1.le hn,h.2.1.le hn,h.2.2⟩
theorem agJ_ok {P:Program} {f:Nat} {cap:List LV} {D:Nat} (hD:D<=24) {p q:PaT} (hu:p.a<p.b) (hv:p.c<p.d) (gu:q.a<q.b) (gv:q.c<q.d) (r1:rl p.a<=9/\rl p.b<=9) (r2:rl p.c<=9/\rl p.d<=9) (r3:rl q.a<=9/\rl q.b<=9) (r4:rl q.c<=9/\rl q.d<=9) (lk:LookT)
  (hl:∀ s t u v:Sp,sgS D s->sgS D t->sgS D u->sgS D v->CallP P f ([.list 6 ([afS p.a p.b s,afS p.c p.d t].map spL),.list 6 ([afS q.a q.b u,afS q.c q.d v].map spL)]++cap) (vdL (lk [afS p.a p.b s,afS p.c p.d t] [afS q.a q.b u,afS q.c q.d v])))
  (hk:∀ A B,(lk A B).2.1<=4/\(lk A B).2.2<=4):LookOK P f cap D 2 4 lk (agJ D p q):=by
 refine⟨fun x h=>?_,fun x h t ht=>?_,fun x h=>?_,fun x h s hs=>?_,fun x h hd=>agJ_half h hd,fun x h=>?_,fun x h=>hk _ _⟩
 ·obtain⟨s,t,u,v,i,j,k,l,e,f,_⟩:=h;rw [e,f];exact⟨rfl,rfl⟩
 ·obtain⟨s,t',u,v,i,j,k,l,e,f,⟨⟨i1,i2⟩,⟨j1,j2⟩,⟨k1,k2⟩,l1,l2⟩,hd,_⟩:=h;rw [f] at ht;simp only [bp,cN,or_false] at ht;rcases ht with rfl | rfl | rfl | rfl<;>omega
 ·obtain⟨_,_,_,_,_,_,_,_,_,_,_,hd,_⟩:=h;exact hd
 ·obtain⟨s',t',u',v',i,j,k,l,e,f,_,hd9,k1,k2,k3,k4⟩:=h;rw [e] at hs;simp only [bp,cN,or_false] at hs;have key:∀ {a b:Rat} {σ:Sp},a<b->rl a<=9/\rl b<=9->sgS x.2.1 σ->bdS 1000 (afS a b σ)/\(afS a b σ).1<=(afS a b σ).2:=fun {a b σ} aW hr re=>by
   have hq:=re.rl J;have h1:=af_rl hr.1 hr.2 hq.1;have h2:=af_rl hr.1 hr.2 hq.2;exact⟨⟨by show rl (a+(b-a)*σ.1)<=_;omega,by show rl (a+(b-a)*σ.2)<=_;omega⟩,dp (af_lt aW re.2.2.2.1)⟩
  rcases hs with rfl | rfl | rfl | rfl
  ·exact key hu r1 k1
  ·exact key hv r2 k2
  ·exact key gu r3 k3
  exact key gv r4 k4
 obtain⟨s,t,u,v,i,j,k,l,e,f,_,hd,h1,h2,h3,h4⟩:=h;rw [e];exact hl s t u v (h1.up hd) (h2.up hd) (h3.up hd) (h4.up hd)
def paL (q:PaT) (s t:Sp):LV:=.agg [nI64 q.U,nI64 q.V,.list 3 ((kn2 q.U s.1 s.2).map ratL),.list 3 ((kn2 q.V t.1 t.2).map ratL),.list 1 ((paC q s t).map prL)]
def paW (q:PaT):LV:=.agg [nI64 q.U,nI64 q.V,.list 3 ((kn2 q.U q.a q.b).map ratL),.list 3 ((kn2 q.V q.c q.d).map ratL),.list 1 (q.r.map prL)]
theorem paL_ob (q:PaT) (s t:Sp):obL (paL q s t) 5:=⟨rfl,rfl,by simp [paL,LV.pure,pures,pures_map ratE,pures_map prE]⟩
theorem paW_ob (q:PaT):obL (paW q) 5:=⟨rfl,rfl,by simp [paW,LV.pure,pures,pures_map ratE,pures_map prE]⟩
structure sdT (q:PaT) (σ τ:Sp) (s t:Sp):Prop where
 pf:pf 4 q.U q.V (paC q s t)
 co:∀ n i j,i<=q.U->j<=q.V->pc4 (paC q s t) n i j=pcT q.U q.V σ τ (pc4 q.r n) i j
 cut:CallP aa 36 [paW q,spL s,spL t] (.tup [paL q s t,iL 0])
 bx:CallP aa 38 [paL q s t] (bxL (paX q s t))
 sp:CallP aa 90 [paL q s t] (.tup [bxL (paU q s t),bxL (paV q s t)])
 xb:bdB 1000000 (paX q s t)
 ub:bdB 12411 (paU q s t)
 vb:bdB 12411 (paV q s t)
theorem sdT_of {q:PaT} {Dp D N:Nat} (h:kPa q Dp D N) (l6:Dp<=23) {σ τ:Sp} (hs:sgS Dp σ) (ht:sgS Dp τ):sdT q σ τ (afS q.a q.b σ) (afS q.c q.d τ):=by
 have abT:=hs.rl J;have abG:=ht.rl J;obtain⟨s1,s2,s3,s4,s5⟩:=hs;obtain⟨t1,t2,t3,t4,t5⟩:=ht;have ra1:=af_rl h.ra h.rb abT.1;have ra2:=af_rl h.ra h.rb abT.2;have rc1:=af_rl h.rc h.rd abG.1;have rc2:=af_rl h.rc h.rd abG.2;have qa:=h.ra;have qb:=h.rb;have qc:=h.rc;have qd:=h.rd;have s6:σ.1<=1:=ay;have s7:0<=σ.2:=ay;have t6:τ.1<=1:=ay;have t7:0<=τ.2:=ay;have lu:(afS q.a q.b σ).1<(afS q.a q.b σ).2:=af_lt h.hu s4;have lv:(afS q.c q.d τ).1<(afS q.c q.d τ).2:=af_lt h.hv t4;have r1:rl (afS q.a q.b σ).1<=32:=by show rl (q.a+(q.b-q.a)*σ.1)<=_;omega
 have r2:rl (afS q.a q.b σ).2<=32:=by show rl (q.a+(q.b-q.a)*σ.2)<=_;omega
 have r3:rl (afS q.c q.d τ).1<=32:=by show rl (q.c+(q.d-q.c)*τ.1)<=_;omega
 have r4:rl (afS q.c q.d τ).2<=32:=by show rl (q.c+(q.d-q.c)*τ.2)<=_;omega
 have pE:0<2 ^ Dp:=dU ae;obtain⟨g1,g2,g3⟩:=c_sCutV (E:=2 ^ Dp) (k:=4) h.sv pE h.D0 h.u1 h.u3 h.v1 h.v3 h.hu h.hv J J J J lu lv (af_in h.hu s3 s6).1 (af_in h.hu s7 s5).2 (af_in h.hv t3 t6).1 (af_in h.hv t7 t5).2 J J J J
  (af_own h.hu σ.1) (af_own h.hu σ.2) (af_own h.hv τ.1) (af_own h.hv τ.2) ⟨s3,s6⟩ ⟨s7,s5⟩ ⟨t3,t6⟩ ⟨t7,t5⟩ (uQ_dy s1 s3 s6) (uQ_dy s2 s7 s5) (uQ_dy t1 t3 t6) (uQ_dy t2 t7 t5) h.hN h.hD ae ae
 have hp:pf 4 q.U q.V (paC q (afS q.a q.b σ) (afS q.c q.d τ)):=g2.pf (k:=4) (eN (eN h.D0 (dU pE)) (dU pE)) h.hN h.hD ae ae h.u1 h.u3 h.v1 h.v3;have w1:=rl_sub (afS q.a q.b σ).2 (afS q.a q.b σ).1;have w2:=rl_sub (afS q.c q.d τ).2 (afS q.c q.d τ).1;have xP:((paC q (afS q.a q.b σ) (afS q.c q.d τ)).flatten.map (·.p)).length-1<((paC q (afS q.a q.b σ) (afS q.c q.d τ)).flatten.map (·.p)).length:=by rw [aA];have:=hp.pos;omega
 have hb:∀ k,bdS 1000000 (bxN ((paC q (afS q.a q.b σ) (afS q.c q.d τ)).flatten.map (·.p)) k (((paC q (afS q.a q.b σ) (afS q.c q.d τ)).flatten.map (·.p)).length-1)):=fun k=>(bxN_bd (R:=4) (fun i hi=>hp.fp hi) k _ xP).le ae;exact⟨hp,g3,g1,c_PBox 4 q.U q.V _ _ _ hp ae,c_PSpd 4 q.U q.V _ _ _ _ _ hp J J J J lu lv ae,⟨hb 0,hb 1,hb 2⟩,psB_bd hp (dfS_U h.u3 h.v3) J,psB_bd hp (dfS_V h.u3 h.v3) J⟩
theorem c_lookT {p q:PaT} {Dp D N D' N':Nat} (hp:kPa p Dp D N) (hq:kPa q Dp D' N') (l6:Dp<=23):LookOK aa 35 [.boxp (paW p),.boxp (paW q)] Dp 2 4 (lkT p q) (agJ Dp p q):=by
 refine agJ_ok J hp.hu hp.hv hq.hu hq.hv ⟨hp.ra,hp.rb⟩ ⟨hp.rc,hp.rd⟩ ⟨hq.ra,hq.rb⟩ ⟨hq.rc,hq.rd⟩ (lkT p q) (fun s t u v hs ht hu hv=>?_) fun A B=>lkS_le _ _ (kS_spec _).1;have h1:=sdT_of hp l6 hs ht;have h2:=sdT_of hq l6 hu hv;obtain⟨k1,k2,k3⟩:=kS_spec (frB p q (afS p.a p.b s) (afS p.c p.d t) (afS q.a q.b u) (afS q.c q.d v));have o1:=paL_ob p (afS p.a p.b s) (afS p.c p.d t);have o2:=paL_ob q (afS q.a q.b u) (afS q.c q.d v);exact c_look19 _ _ _ _ _ _ _ _ (paW_ob p) (paW_ob q) o1 o2 _ _ 1000000 ae h1.xb h2.xb _ h1.cut h2.cut h1.bx h2.bx fun _ =>
  c_test _ _ o1.cs o1.ag o1.pu o2.cs o2.ag o2.pu _ _ _ _ 12411 ae h1.ub h1.vb h2.ub h2.vb h1.sp h2.sp _ k1 k2 k3
theorem in_own {a b x:Rat} {σ:Sp} (aW:a<b) (h0:0<=σ.1) (hl:σ.1<σ.2) (h1:σ.2<=1) (hx:inSp (afS a b σ) x):∃ y,(0<=y/\y<=1)/\y=(x-(afS a b σ).1)/((afS a b σ).2-(afS a b σ).1)/\σ.1+y*(σ.2-σ.1)=(x-a)/(b-a) :=
 ⟨_,own_in (af_lt aW hl) hx.1 hx.2,rfl,own_af aW hl⟩
theorem lkT_keep {p q:PaT} {Dp D N D' N':Nat} (hp:kPa p Dp D N) (hq:kPa q Dp D' N') (l6:Dp<=23) {P:Nat->Rat} (he:∀ k,k<3->ptK p.U p.V p.r.flatten k ((P 0-p.a)/(p.b-p.a)) ((P 1-p.c)/(p.d-p.c))=ptK q.U q.V q.r.flatten k ((P 2-q.a)/(q.b-q.a)) ((P 3-q.c)/(q.d-q.c))) :
  ∀ x,agJ Dp p q x->hasL x.1 4 P->(lkT p q (x.1.take 2) (x.1.drop 2)).1=false:=fun x hx hh=>by
 obtain⟨s,t,u,v,_,_,_,_,e,_,_,hd,hs,ht,hu,hv⟩:=hx;have i0:=hh.2 0 ae;have i1:=hh.2 1 ae;have i2:=hh.2 2 ae;have i3:=hh.2 3 ae;rw [e] at i0 i1 i2 i3 ⊢;have hs:=hs.up hd;have ht:=ht.up hd;have hu:=hu.up hd;have hv:=hv.up hd;have h1:=sdT_of hp l6 hs ht;have h2:=sdT_of hq l6 hu hv;obtain⟨y0,b0,_,f0⟩:=in_own hp.hu hs.2.2.1 hs.2.2.2.1 hs.2.2.2.2 i0;obtain⟨y1,b1,_,f1⟩:=in_own hp.hv ht.2.2.1 ht.2.2.2.1 ht.2.2.2.2 i1;obtain⟨y2,b2,_,f2⟩:=in_own hq.hu hu.2.2.1 hu.2.2.2.1 hu.2.2.2.2 i2;obtain⟨y3,b3,_,f3⟩:=in_own hq.hv hv.2.2.1 hv.2.2.2.1 hv.2.2.2.2 i3;have key:∀ k,k<3->(peV p.U p.V (paC p (afS p.a p.b s) (afS p.c p.d t)).flatten y0 y1).at k=(peV q.U q.V (paC q (afS q.a q.b u) (afS q.c q.d v)).flatten y2 y3).at k:=fun k hk=>by
  rw [pe_ptK _ _ _ _ _ hk,pe_ptK _ _ _ _ _ hk,part_ptK hp.pf h1.pf h1.co hk,part_ptK hq.pf h2.pf h2.co hk,f0,f1,f2,f3];exact he k hk
 have g:∀ k,k<3->meS (bxN ((paC p (afS p.a p.b s) (afS p.c p.d t)).flatten.map (·.p)) k (((paC p (afS p.a p.b s) (afS p.c p.d t)).flatten.map (·.p)).length-1)) (bxN ((paC q (afS q.a q.b u) (afS q.c q.d v)).flatten.map (·.p)) k (((paC q (afS q.a q.b u) (afS q.c q.d v)).flatten.map (·.p)).length-1))=true:=fun k hk=>by
  have q1:=pe_box h1.pf b0.1 b0.2 b1.1 b1.2 k hk;have q2:=pe_box h2.pf b2.1 b2.2 b3.1 b3.2 k hk;rw [<-key k hk] at q2;unfold hasR at q1 q2;simp only [dG,decide_eq_true_eq] at q1 q2;exact meS_of q1 q2
 have hm:meB (paX p (afS p.a p.b s) (afS p.c p.d t)) (paX q (afS q.a q.b u) (afS q.c q.d v))=true:=by
  show (meS _ _ && meS _ _ && meS _ _)=true;rw [show meS (paX p (afS p.a p.b s) (afS p.c p.d t)).x (paX q (afS q.a q.b u) (afS q.c q.d v)).x=true from g 0 ae,show meS (paX p (afS p.a p.b s) (afS p.c p.d t)).y (paX q (afS q.a q.b u) (afS q.c q.d v)).y=true from g 1 ae,show meS (paX p (afS p.a p.b s) (afS p.c p.d t)).z (paX q (afS q.a q.b u) (afS q.c q.d v)).z=true from g 2 ae];rfl
 show (lkS (paX p (afS p.a p.b s) (afS p.c p.d t)) (paX q (afS q.a q.b u) (afS q.c q.d v)) _).1=false;unfold lkS;rw [if_pos hm];unfold tsV;split<;>rfl
theorem lkT_once {p q:PaT} {Dp D N D' N':Nat} (hp:kPa p Dp D N) (hq:kPa q Dp D' N') (l6:Dp<=23) {s t u v:Sp} (hs:sgS Dp s) (ht:sgS Dp t) (hu:sgS Dp u) (hv:sgS Dp v) {K:Nat} (hK:hasR (dtK (frB p q (afS p.a p.b s) (afS p.c p.d t) (afS q.a q.b u) (afS q.c q.d v)) K) 0=false) {P Q:Nat->Rat}
  (he:∀ k,k<3->ptK p.U p.V p.r.flatten k ((P 0-p.a)/(p.b-p.a)) ((P 1-p.c)/(p.d-p.c))=ptK q.U q.V q.r.flatten k ((P 2-q.a)/(q.b-q.a)) ((P 3-q.c)/(q.d-q.c)))
  (he':∀ k,k<3->ptK p.U p.V p.r.flatten k ((Q 0-p.a)/(p.b-p.a)) ((Q 1-p.c)/(p.d-p.c))=ptK q.U q.V q.r.flatten k ((Q 2-q.a)/(q.b-q.a)) ((Q 3-q.c)/(q.d-q.c)))
  (hP:hasL [afS p.a p.b s,afS p.c p.d t,afS q.a q.b u,afS q.c q.d v] 4 P) (hQ:hasL [afS p.a p.b s,afS p.c p.d t,afS q.a q.b u,afS q.c q.d v] 4 Q) (hk4:K<4) (hc:P K=Q K):∀ k,k<4->P k=Q k:=by
 have h1:=sdT_of hp l6 hs ht;have h2:=sdT_of hq l6 hu hv;have l1:=af_lt hp.hu hs.2.2.2.1;have l2:=af_lt hp.hv ht.2.2.2.1;have l3:=af_lt hq.hu hu.2.2.2.1;have l4:=af_lt hq.hv hv.2.2.2.1;obtain⟨y0,b0,d0,f0⟩:=in_own hp.hu hs.2.2.1 hs.2.2.2.1 hs.2.2.2.2 (hP.2 0 ae);obtain⟨y1,b1,d1,f1⟩:=in_own hp.hv ht.2.2.1 ht.2.2.2.1 ht.2.2.2.2 (hP.2 1 ae);obtain⟨y2,b2,d2,f2⟩:=in_own hq.hu hu.2.2.1 hu.2.2.2.1 hu.2.2.2.2 (hP.2 2 ae);obtain⟨y3,b3,d3,f3⟩:=in_own hq.hv hv.2.2.1 hv.2.2.2.1 hv.2.2.2.2 (hP.2 3 ae);obtain⟨z0,c0,g0,j0⟩:=in_own hp.hu hs.2.2.1 hs.2.2.2.1 hs.2.2.2.2 (hQ.2 0 ae);obtain⟨z1,c1,g1,j1⟩:=in_own hp.hv ht.2.2.1 ht.2.2.2.1 ht.2.2.2.2 (hQ.2 1 ae);obtain⟨z2,c2,g2,j2⟩:=in_own hq.hu hu.2.2.1 hu.2.2.2.1 hu.2.2.2.2 (hQ.2 2 ae);obtain⟨z3,c3,g3,j3⟩:=in_own hq.hv hv.2.2.1 hv.2.2.2.1 hv.2.2.2.2 (hQ.2 3 ae);have e1:∀ k,k<3->ptK p.U p.V (paC p (afS p.a p.b s) (afS p.c p.d t)).flatten k y0 y1=ptK q.U q.V (paC q (afS q.a q.b u) (afS q.c q.d v)).flatten k y2 y3:=fun k hk=>by
  rw [part_ptK hp.pf h1.pf h1.co hk,part_ptK hq.pf h2.pf h2.co hk,f0,f1,f2,f3];exact he k hk
 have e2:∀ k,k<3->ptK p.U p.V (paC p (afS p.a p.b s) (afS p.c p.d t)).flatten k z0 z1=ptK q.U q.V (paC q (afS q.a q.b u) (afS q.c q.d v)).flatten k z2 z3:=fun k hk=>by
  rw [part_ptK hp.pf h1.pf h1.co hk,part_ptK hq.pf h2.pf h2.co hk,j0,j1,j2,j3];exact he' k hk
 have wp:∀ {a b:Rat},a<b->0<b-a:=fun {a b} h=>by grind
 have nt:(K=0/\y0=z0)\/(K=1/\y1=z1)\/(K=2/\y2=z2)\/(K=3/\y3=z3):=by
  rcases(show K=0\/K=1\/K=2\/K=3 by omega) with rfl | rfl | rfl | rfl
  ·exact .inl ⟨rfl,by rw [d0,g0,hc]⟩
  ·exact .inr (.inl ⟨rfl,by rw [d1,g1,hc]⟩)
  ·exact .inr (.inr (.inl ⟨rfl,by rw [d2,g2,hc]⟩))
  exact .inr (.inr (.inr ⟨rfl,by rw [d3,g3,hc]⟩))
 obtain⟨m0,m1,m2,m3⟩:=cell_inj h1.pf h2.pf (wp l1) (wp l2) (wp l3) (wp l4) b0 b1 b2 b3 c0 c1 c2 c3 e1 e2 hK nt;have back:∀ {a b x x':Rat},a<b->(x-a)/(b-a)=(x'-a)/(b-a)->x=x':=fun {a b x x'} h e=>by
  have hn:b-a≠0:=ay;have w:=congrArg (·*(b-a)) e;simp only [gz hn] at w;grind
 intro k hk;rcases(show k=0\/k=1\/k=2\/k=3 by omega) with rfl | rfl | rfl | rfl
 ·exact back l1 (d0 ▸ g0 ▸ m0)
 ·exact back l2 (d1 ▸ g1 ▸ m1)
 ·exact back l3 (d2 ▸ g2 ▸ m2)
 exact back l4 (d3 ▸ g3 ▸ m3)
theorem sgn_nn {x:Rat} (h:0<=x):sgnR x>=0:=by
 unfold sgnR;split
 ·decide
 rw [if_neg ay];decide
def pcW (n:Int):Rat:=if n % 3=2 then((1:Int):Rat)/((1+n % 5:Int):Rat) else 0
open H_c_FourP in
theorem c_sValG (d w:Nat) (wd:Rat) (hd:d<=24) (hw:w<=4096) (h0:0<=wd) (hr:rl wd<=100):CallP aa 31 [.agg [nI64 d,nI64 w,ratL wd]] (bL true):=by
 have zA:=c_RValid wd J;have xp:=c_RSign wd J;have hp:LV.pure (.agg [nI64 d,nI64 w,ratL wd])=true:=ny;refine fnP Tryz.func31 ?_;refine zg12 ?_;refine st_pure fi faA ?_;refine st_pure fi ldA ?_;refine sO ?_;refine sO ?_;refine sO ?_;refine st_callP fi (.cons im0 .nil) (zA) ?_;refine st_pure rfl (.pickT rfl ((decide_eq_true J))) ?_;refine zg1 ?_;refine mg ?_;refine st_callP eE (.cons im0 .nil) (xp) ?_;refine pK ?_;refine zg4 ?_;refine ret1 (x:=bL (decide (sgnR wd>=0))) rfl ?_;rw [show decide (sgnR wd>=0)=true from decide_eq_true (sgn_nn h0)];exact .pure rfl
open H_c_Distinct in
theorem c_DPrec (depth work width:Int) (dn wn:Nat) (er:depth % 7=(dn:Int)) (wA:work % 40=(wn:Int)):CallP aa 9 [iL depth,iL work,iL width] (.agg [nI64 dn,nI64 wn,ratL (pcW width)]):=by
 have n5:CallP aa 10 [iL depth,iL 7] (nI64 dn):=by
  have:=c_Mod depth 7 ae ae;rwa [er] at this
 have oP:CallP aa 10 [iL work,iL 40] (nI64 wn):=by
  have:=c_Mod work 40 ae ae;rwa [wA] at this
 have h5a:=nL width (show (5:Int)≠0 by decide);have h5b:=nB width (show (0:Int)<5 by decide);refine fnP Tryz.func9 (ht:=(fun g=>LV.ren_pure g _ ny)) ?_;refine zg8 ?_;refine cp am2 (n5) ?_;refine zg1 ?_;refine cp am2 (oP) ?_;refine st_pure rfl (show OpP _ _ _ _ (.agg [nI64 dn,nI64 wn,ratL 0]) from .build (zs:=[.v (.int .i64 0),.v (.int .i64 0),ratL 0]) (by simpa [lay,LV.csize,csizes,isAgg_v,ratE.csize,ratE.isAgg] using SL41) Z41 (by simp only [abB];exact⟨⟨_,rfl,rfl,ne0⟩,⟨_,rfl,rfl,ne0⟩,fun _ h=>by cases h⟩)) ?_;refine zg8 ?_;refine cp am2 (c_Mod width 3 ae ae) ?_;refine zg3 ?_;refine wl_if rfl ?_ ?_<;>intro il fc
 ·have hV:pcW width=((1:Int):Rat)/((1+width % 5:Int):Rat):=if_pos (by simpa using fc);refine zg2 ?_;refine cp am2 (c_Mod width 5 ae ae) ?_;refine st_pure rfl mo ?_;refine cp am2 (c_FFrac 1 (1+width % 5) J J J J J) ?_;refine zg11 ?_;rw [hV];exact retC [] rfl rfl rfl cs (at_all cs rfl) T41 (.pure ny)
 have hV:pcW width=0:=if_neg (by simpa using fc);refine zg9 ?_;rw [hV];exact retC [] rfl rfl rfl cs (at_all cs rfl) T41 (.pure ny)
theorem pe_bd {U V:Nat} {rows:List (List PoR)} (h:pf 4 U V rows) {x y:Rat} (hx:shX x) (hy:shX y):bd3 400000 (peV U V rows.flatten x y):=by
 have hu:=h.u3;have hv:=h.v3;have hw:=(evT_sz h.wl J J h.r1 ae h.wr hx hy).2.2.2.2;have hn:∀ k,rl (evT U V (nmP rows.flatten k) x y)<=4100*(8+30):=fun k=>(evT_sz (R:=8) (h.nl k) J J ae ae (h.nr k) hx hy).2.2.2.2;have hI:=rl_div 1 (evT U V (wtP rows.flatten) x y);have h1r:rl 1=1:=rfl;have m:=fun k=>rl_mul (1/evT U V (wtP rows.flatten) x y) (evT U V (nmP rows.flatten k) x y);refine⟨?_,?_,?_⟩
 ·show rl (1/evT U V (wtP rows.flatten) x y*evT U V (nmP rows.flatten 0) x y)<=_;have:=m 0;have:=hn 0;omega
 ·show rl (1/evT U V (wtP rows.flatten) x y*evT U V (nmP rows.flatten 1) x y)<=_;have:=m 1;have:=hn 1;omega
 show rl (1/evT U V (wtP rows.flatten) x y*evT U V (nmP rows.flatten 2) x y)<=_;have:=m 2;have:=hn 2;omega
theorem cdQ_quo {D N M:Nat} {n w:Rat} (h:cdQ D N n) (hM:w*((D:Int):Rat)=((M:Int):Rat)) (hw:w≠0):cdQ M N (1/w*n):=by
 obtain⟨z,e,g⟩:=h;refine⟨z,?_,g⟩;rw [<-hM,<-e];have:1/w*w=1:=gz hw;have e2:1/w*n*(w*((D:Int):Rat))=(1/w*w)*(n*((D:Int):Rat)):=ay;rw [e2,this,fN]
theorem pt_uQ (n:Int):∃ E:Nat,0<E/\E<=12/\uQ E (ptV n):=by
 have hd:=ptD_bd n;have h1:=nL n (show ptD n+1≠0 by omega);have h2:=nB n (show (0:Int)<ptD n+1 by omega);have hp:(0:Rat)<((ptD n:Int):Rat):=ou.2 J;have e:ptV n*((ptD n:Int):Rat)=((n % (ptD n+1):Int):Rat):=gz ay;refine⟨(ptD n).toNat,J,J,(n % (ptD n+1)).toNat,(ptD n-n % (ptD n+1)).toNat,?_,?_⟩
 ·rw [qe J,qe h1];exact e
 rw [qe J,qe J,acx,<-e];grind
theorem pe_cd {R U V D N E F:Nat} {rows:List (List PoR)} (h:svC U V rows D N) (hp:pf R U V rows) {x y:Rat} (hx:uQ E x) (hy:uQ F y) (hE:0<E) (hF:0<F) (hD:0<D) (x0:0<=x) (x1:x<=1) (y0:0<=y) (y1:y<=1) :
  ∃ M,0<M/\M<=N*E ^ U*F ^ V/\∀ k,k<3->cdQ M (N*E ^ U*F ^ V) ((peV U V rows.flatten x y).at k):=by
 have cn:∀ k,cdQ (D*E ^ U*F ^ V) (N*E ^ U*F ^ V) (evF U V (pc4 rows k) x y):=fun k=>fE_cd hy V _ fun j hj=>fE_cd hx U _ fun i hi=>h.c k i j hi hj;have hw:=pf.wpos hp x0 x1 y0 y1;rw [evT_pw hp] at hw;obtain⟨M,m0,m1,m2⟩:=cdQ_wt (cn 3) hw (eN (eN hD (dU hE)) (dU hF));refine⟨M,m0,m1,fun k hk=>?_⟩;have ak:evF U V (pc4 rows 3) x y≠0:=ay
 match k,hk with
 | 0,_ =>
  show cdQ _ _ (1/evT U V (wtP rows.flatten) x y*evT U V (nmP rows.flatten 0) x y);rw [evT_pw hp,evT_pc hp ae];exact cdQ_quo (cn 0) m2 ak
 | 1,_ =>
  show cdQ _ _ (1/evT U V (wtP rows.flatten) x y*evT U V (nmP rows.flatten 1) x y);rw [evT_pw hp,evT_pc hp ae];exact cdQ_quo (cn 1) m2 ak
 | 2,_ =>
  show cdQ _ _ (1/evT U V (wtP rows.flatten) x y*evT U V (nmP rows.flatten 2) x y);rw [evT_pw hp,evT_pc hp ae];exact cdQ_quo (cn 2) m2 ak
def mpR (f:PoR->PoR) (rows:List (List PoR)):List (List PoR):=rows.map fun r=>r.map f
theorem mpR_at {f:PoR->PoR} {U V D N:Nat} {rows:List (List PoR)} (h:svC U V rows D N) {i j:Nat} (hi:i<=U) (hj:j<=V):((mpR f rows).getD i []).getD j default=f ((rows.getD i []).getD j default):=by
 have h1:=h.n;have fv:i<rows.length:=J;have h2:=h.m _ (fY fv);have hj':j<(rows[i]).length:=J;unfold mpR;rw [ao (l:=jt _ rows),bU,ao (l:=rows),aB fv];show ((rows[i]).map f).getD j default=f ((rows[i]).getD j default);rw [ao,bU,ao,aB hj'];rfl
theorem mpR_len {f:PoR->PoR} {U V D N:Nat} {rows:List (List PoR)} (h:svC U V rows D N):(mpR f rows).length=U+1/\∀ r∈mpR f rows,r.length=V+1 :=
 ⟨by unfold mpR;rw [aA,h.n],fun r hr=>by
  obtain⟨r',fF,rfl⟩:=bS.1 hr;rw [aA,h.m r' fF]⟩
theorem v3s_at (p q:V3) (k:Nat):(v3s p q).at k=p.at k-q.at k:=by
 match k with
 | 0=>rfl
 | 1=>rfl
 | k+2=>rfl
theorem mv_shP (T:V3) (q:PoR):mvP (shM T) q=⟨v3a q.p T,q.w⟩:=by
 show (⟨⟨0+1*q.p.x+0*q.p.y+0*q.p.z+T.x,0+0*q.p.x+1*q.p.y+0*q.p.z+T.y,0+0*q.p.x+0*q.p.y+1*q.p.z+T.z⟩,q.w⟩:PoR)=⟨⟨q.p.x+T.x,q.p.y+T.y,q.p.z+T.z⟩,q.w⟩;congr 2<;>grind
section
variable {U V D N:Nat} {rows:List (List PoR)} (h:svC U V rows D N) (T:V3)
include h
theorem sh_c {k i j:Nat} (hk:k<3) (hi:i<=U) (hj:j<=V):pc4 (mpR (mvP (shM T)) rows) k i j=pc4 rows k i j+pc4 rows 3 i j*T.at k:=by
 unfold pc4;rw [mpR_at h hi hj,mv_shP];generalize (rows.getD i []).getD j default=q
 match k,hk with
 | 0,_=>show q.w*(q.p.x+T.x)=q.w*q.p.x+q.w*T.x;grind
 | 1,_=>show q.w*(q.p.y+T.y)=q.w*q.p.y+q.w*T.y;grind
 | 2,_=>show q.w*(q.p.z+T.z)=q.w*q.p.z+q.w*T.z;grind
theorem sh_w {k i j:Nat} (hi:i<=U) (hj:j<=V):pc4 (mpR (mvP (shM T)) rows) (k+3) i j=pc4 rows 3 i j:=by
 unfold pc4;rw [mpR_at h hi hj,mv_shP];rfl
theorem sv_sh {M Z:Nat} (hT:∀ k,k<3->cdQ M Z (T.at k)):svC U V (mpR (mvP (shM T)) rows) (D*M) (N*M+N*Z):=by
 refine⟨(mpR_len h).1,(mpR_len h).2,fun k i j hi hj=>?_,fun i j hi hj=>by rw [sh_w h T (k:=0) hi hj];exact h.w i j hi hj⟩;have a:∀ k,cdQ (D*M) (N*M) (pc4 rows k i j):=fun k=>(h.c k i j hi hj).scale (E:=M);rcases cu k 3 with g | g
 ·rw [sh_c h T g hi hj];exact(a k).addQ ((h.c 3 i j hi hj).mulQ (hT k g))
 obtain⟨k,rfl⟩:∃ n,k=n+3:=⟨k-3,J⟩;rw [sh_w h T hi hj];exact(a 3).mono (abN _ _)
end
theorem sh_ptK {R S U V D N:Nat} {rows:List (List PoR)} (h:svC U V rows D N) (T:V3) (hp:pf R U V rows) (hq:pf S U V (mpR (mvP (shM T)) rows)) {x y:Rat} (x0:0<=x) (x1:x<=1) (y0:0<=y) (y1:y<=1) {k:Nat} (hk:k<3) :
  ptK U V (mpR (mvP (shM T)) rows).flatten k x y=ptK U V rows.flatten k x y+T.at k:=by
 have hw:=pf.wpos hp x0 x1 y0 y1;rw [evT_pw hp] at hw;unfold ptK;rw [evT_pc hq hk,evT_pw hq,evT_pc hp hk,evT_pw hp];have e3:evF U V (pc4 (mpR (mvP (shM T)) rows) 3) x y=evF U V (pc4 rows 3) x y:=evF_congr x y fun i j hi hj=>sh_w h T (k:=0) hi hj;have ek:evF U V (pc4 (mpR (mvP (shM T)) rows) k) x y=evF U V (pc4 rows k) x y+T.at k*evF U V (pc4 rows 3) x y:=by
  have e:=evF_lin4 (U:=U) (V:=V) 1 (T.at k) 0 0 (pc4 rows k) (pc4 rows 3) (fun _ _=>0) (fun _ _=>0) x y;rw [evF_congr (g:=fun i j=>1*pc4 rows k i j+T.at k*pc4 rows 3 i j+0*0+0*0) x y fun i j hi hj=>by rw [sh_c h T hk hi hj];grind];rw [e];grind
 rw [e3,ek];generalize evF U V (pc4 rows 3) x y=w at *
 generalize evF U V (pc4 rows k) x y=n;have hn:w≠0:=ay;have h1:(n+T.at k*w)/w=n/w+T.at k*w/w:=by rw [cj,cj,cj,Rat.add_mul]
 rw [h1,mc hn]
def axM:M3:=⟨⟨0,0,1⟩,⟨0,1,0⟩,⟨1,0,0⟩,⟨0,0,0⟩⟩
theorem mv_ax (q:PoR):mvP axM q=⟨⟨q.p.z,q.p.y,q.p.x⟩,q.w⟩:=by
 show (⟨⟨0+0*q.p.x+0*q.p.y+1*q.p.z+0,0+0*q.p.x+1*q.p.y+0*q.p.z+0,0+1*q.p.x+0*q.p.y+0*q.p.z+0⟩,q.w⟩:PoR)=_;congr 2<;>grind
theorem sm_ax {q:PoR} (h:smR q):smR (mvP axM q):=by
 rw [mv_ax];obtain⟨h1,h2⟩:=h;refine⟨fun n=>?_,h2⟩
 match n with
 | 0=>exact h1 2
 | 1=>exact h1 1
 | 2=>exact h1 0
 | n+3=>exact h1 3
theorem drS.ax {U V:Nat} {S T:Rat} {rows:List (List PoR)} (h:drS U V S T rows):drS U V S T (mpR (mvP axM) rows) :=
 ⟨h.u1,h.u2,h.v1,h.v2,by unfold mpR;rw [aA];exact h.n,fun r hr=>by
  obtain⟨r',fF,rfl⟩:=bS.1 hr;have g:=h.sm r' fF;exact⟨by rw [aA];exact g.1,fun q hq=>by obtain⟨q',yt,rfl⟩:=bS.1 hq;exact sm_ax (g.2 q' yt)⟩,h.s1,h.t1⟩
theorem pw12 {E U:Nat} (hE:E<=12) (hU:U<=2):E ^ U<=144:=by
 rcases(show U=0\/U=1\/U=2 by omega) with rfl | rfl | rfl
 ·rw [nI];decide
 ·rw [abM];omega
 rw [adV];exact aw (cx hE hE) ae
theorem pw64 {Dp U:Nat} (hD:Dp<=6) (hU:U<=2):(2 ^ Dp) ^ U<=4096:=by
 have h:2 ^ Dp<=64:=gg (n:=2) ae hD;rcases(show U=0\/U=1\/U=2 by omega) with rfl | rfl | rfl
 ·rw [nI];decide
 ·rw [abM];omega
 rw [adV];exact aw (cx h h) ae
theorem kPa_of {U V D N:Nat} {S T:Rat} {rows:List (List PoR)} (u1:1<=U) (u2:U<=2) (v1:1<=V) (v2:V<=2) (s1:rl S<=1) (t1:rl T<=1) (h:svC U V rows D N) (hD:0<D) (hN:N<=10400000000000000000) (lV:D<=10400000000000000000) {Dp:Nat} (l6:Dp<=6):kPa ⟨U,V,S,S+1,T,T+1,rows⟩ Dp D N:=by
 have r1:rl 1=1:=rfl;have a1:=rl_add S 1;have a2:=rl_add T 1;have key:∀ X,X<=10400000000000000000->X*(2 ^ Dp) ^ U*(2 ^ Dp) ^ V<4294967296 ^ 4:=fun X hX =>
  jW (cx (cx hX (pw64 l6 u2)) (pw64 l6 v2)) ae
 exact⟨u1,by show U<=3;omega,v1,by show V<=3;omega,lt_one _,lt_one _,by show rl S<=9;omega,by show rl (S+1)<=9;omega,by show rl T<=9;omega,by show rl (T+1)<=9;omega,h,hD,key N hN,key D lV⟩
def pr4 (a b c d:Rat):Nat->Rat:=fun k=>[a,b,c,d].getD k 0
theorem c_evT {q:PaT} {Dp D N:Nat} (h:kPa q Dp D N) {t s:Rat} (ht:q.a<=t/\t<=q.b) (hs:q.c<=s/\s<=q.d) (rt:rl t<=1000) (rs:rl s<=1000) (hx:rl ((t-q.a)/(q.b-q.a))<=8):CallP aa 14 [paW q,ratL t,ratL s] (.tup [ptL (peV q.U q.V q.r.flatten ((t-q.a)/(q.b-q.a)) ((s-q.c)/(q.d-q.c))),iL 0]):=by
 have ra:=h.ra;have rb:=h.rb;have rc:=h.rc;have rd:=h.rd;have hu:=h.hu;have hv:=h.hv;have o1:=own_in hu ht.1 ht.2;exact c_FEval12 q.U q.V q.a q.b q.c q.d t s _ _ q.r h.pf ay rfl J J rt ht.1 ht.2 ay rfl J J rs hs.1 hs.2 (shX_of hx) o1.1 o1.2
theorem c_domT {q:PaT} {Dp D N:Nat} (h:kPa q Dp D N):CallP aa 29 [paW q] (.tup [spL (q.a,q.b),spL (q.c,q.d)]):=by
 have ra:=h.ra;have rb:=h.rb;have rc:=h.rc;have rd:=h.rd;have u3:=h.u3;have v3:=h.v3;exact c_FDom12 q.U q.V q.a q.b q.c q.d q.r J J J J h.hu h.hv J J
structure two19 (p q:PaT) (w0 w1 w2 w3:Rat):Prop where
 kp:∀ Dp,Dp<=6->∃ D N,kPa p Dp D N
 kq:∀ Dp,Dp<=6->∃ D N,kPa q Dp D N
 i0:p.a<=w0/\w0<=p.b
 i1:p.c<=w1/\w1<=p.d
 i2:q.a<=w2/\w2<=q.b
 i3:q.c<=w3/\w3<=q.d
 r:rl w0<=3/\rl w1<=3/\rl w2<=3/\rl w3<=3
 o0:rl ((w0-p.a)/(p.b-p.a))<=1
 o1:rl ((w1-p.c)/(p.d-p.c))<=1
 o2:rl ((w2-q.a)/(q.b-q.a))<=1
 o3:rl ((w3-q.c)/(q.d-q.c))<=1
 e:∀ k,k<3->ptK p.U p.V p.r.flatten k ((w0-p.a)/(p.b-p.a)) ((w1-p.c)/(p.d-p.c))=ptK q.U q.V q.r.flatten k ((w2-q.a)/(q.b-q.a)) ((w3-q.c)/(q.d-q.c))
theorem c_two19 (l:List Int) (na nb nc ne:Int) (hl:l.length<=500) (ha:-9223372036854775808<=na/\na<=9223372036854775807) (hb:-9223372036854775808<=nb/\nb<=9223372036854775807) (hc:-9223372036854775808<=nc/\nc<=9223372036854775807) (he:-9223372036854775808<=ne/\ne<=9223372036854775807):∃ (p q:PaT) (w0 w1 w2 w3:Rat),two19 p q w0 w1 w2 w3 /\
  CallP aa 7 [.list 1 (l.map i64L),.agg [iL na,iL nb,iL nc,iL ne],iL 0] (.tup [paW p,paW q,.agg [ratL w0,ratL w1,ratL w2,ratL w3]]):=by
 obtain⟨U,V,S,T,rows,k1,fR,hp,iz⟩:=dr_surf hl (az 500);obtain⟨W,Y,S',T',kR,k2,dk,hq,mW⟩:=dr_surf hl fR;have uK:=c_Next l k2 2 hl dk ae ae;generalize nxV l k2 2=v at uK;generalize nxK l k2=k3 at uK;have bax:bdM 4 axM:=by
  have z:∀ x:Rat,x=0\/x=1->rl x<=4:=fun x h=>by rcases h with rfl | rfl<;>decide +kernel
  exact⟨⟨z _ (.inl rfl),z _ (.inl rfl),z _ (.inr rfl)⟩,⟨z _ (.inl rfl),z _ (.inr rfl),z _ (.inl rfl)⟩,⟨z _ (.inr rfl),z _ (.inl rfl),z _ (.inl rfl)⟩,⟨z _ (.inl rfl),z _ (.inl rfl),z _ (.inl rfl)⟩⟩
 have D0:0<96:=ae;have zf:∀ {U V:Nat} {S T:Rat} {r:List (List PoR)},drS U V S T r->pf 4 U V r:=fun {U V S T r} h=>by
  have:=h.u2;have:=h.v2;exact h.sv.pf (k:=4) ae ae ae ae ae h.u1 J h.v1 J
 have kl:∀ (d:Nat) (a b:Rat),d<=2->(kn2 d a b).length<=100:=fun d a b h=>by rw [kn2_len];omega
 have n5:=c_Move12 W Y (kn2 W S' (S'+1)) (kn2 Y T' (T'+1)) kR axM (zf hq) bax (kl _ _ _ hq.u2) (kl _ _ _ hq.v2);obtain⟨eO,jA,kh,hz⟩:∃ eO,(v=0->eO=mpR (mvP axM) kR)/\(¬v=0->eO=kR)/\drS W Y S' T' eO:=by
  by_cases h:v=0
  ·exact⟨_,fun _=>rfl,fun g=>absurd h g,hq.ax⟩
  exact⟨_,fun g=>absurd g h,fun _=>rfl,hq⟩
 obtain⟨E0,a0,b0,x0⟩:=pt_uQ na;obtain⟨E1,a1,b1,x1⟩:=pt_uQ nb;obtain⟨E2,a2,b2,x2⟩:=pt_uQ nc;obtain⟨E3,a3,b3,x3⟩:=pt_uQ ne;have pP:=zf hp;have pZ:=zf hz;obtain⟨M,m0,m1,m2⟩:=pe_cd hp.sv pP x0 x1 a0 a1 D0 (ptV_in na).1 (ptV_in na).2 (ptV_in nb).1 (ptV_in nb).2;obtain⟨L,l0,l1,l2⟩:=pe_cd hz.sv pZ x2 x3 a2 a3 D0 (ptV_in nc).1 (ptV_in nc).2 (ptV_in ne).1 (ptV_in ne).2;have g1:2000*E0 ^ U*E1 ^ V<=41472000:=aw (cx (cx (an 2000) (pw12 b0 hp.u2)) (pw12 b1 hp.v2)) ae;have g2:2000*E2 ^ W*E3 ^ Y<=41472000:=aw (cx (cx (an 2000) (pw12 b2 hz.u2)) (pw12 b3 hz.v2)) ae;obtain⟨P,hP⟩:∃ P,P=peV U V rows.flatten (ptV na) (ptV nb):=⟨_,rfl⟩;obtain⟨Q,hQ⟩:∃ Q,Q=peV W Y eO.flatten (ptV nc) (ptV ne):=⟨_,rfl⟩;rw [<-hP] at m2;rw [<-hQ] at l2;have m2:∀ k,k<3->cdQ M 41472000 (P.at k):=fun k hk=>(m2 k hk).mono g1;have l2:∀ k,k<3->cdQ L 41472000 (Q.at k):=fun k hk=>(l2 k hk).mono g2;have m1:M<=41472000:=aw m1 g1;have l1:L<=41472000:=aw l1 g2;have hT:∀ k,k<3->cdQ (M*L) (41472000*L+41472000*M) ((v3s P Q).at k):=fun k hk=>by
  rw [v3s_at];have h2:=(l2 k hk).scale (E:=M);rw [Nat.mul_comm L M] at h2;exact((m2 k hk).scale (E:=L)).subQ h2
 have ML:M*L<=41472000*41472000:=cx m1 l1;have ML0:0<M*L:=eN m0 l0;have bnd:∀ (x:V3) (D' N':Nat),0<D'->D'<=41472000*41472000->N'<=41472000*41472000*2->(∀ k',k'<3->cdQ D' N' (x.at k'))->bd3 4 x:=fun x D' N' h0 h1 h2 h=>⟨(h 0 ae).rl h0 J J ae,(h 1 ae).rl h0 J J ae,(h 2 ae).rl h0 J J ae⟩;have bP:=bnd P _ _ m0 J J m2;have bQ:=bnd Q _ _ l0 J J l2;have bT:=bnd (v3s P Q) _ _ ML0 ML J hT;have svm:=sv_sh hz.sv (v3s P Q) hT;have kp:∀ Dp,Dp<=6->kPa ⟨U,V,S,S+1,T,T+1,rows⟩ Dp 96 2000:=fun Dp h=>kPa_of hp.u1 hp.u2 hp.v1 hp.v2 hp.s1 hp.t1 hp.sv D0 ae ae h;have kz:∀ Dp,Dp<=6->kPa ⟨W,Y,S',S'+1,T',T'+1,eO⟩ Dp 96 2000:=fun Dp h=>kPa_of hz.u1 hz.u2 hz.v1 hz.v2 hz.s1 hz.t1 hz.sv D0 ae ae h;have kq:∀ Dp,Dp<=6->kPa ⟨W,Y,S',S'+1,T',T'+1,mpR (mvP (shM (v3s P Q))) eO⟩ Dp (96*(M*L)) (2000*(M*L)+2000*(41472000*L+41472000*M)):=fun Dp h=>kPa_of hz.u1 hz.u2 hz.v1 hz.v2 hz.s1 hz.t1 svm J J J h;have oP:=c_Move12 W Y (kn2 W S' (S'+1)) (kn2 Y T' (T'+1)) eO (shM (v3s P Q)) pZ (shM_bd ae bT) (kl _ _ _ hq.u2) (kl _ _ _ hq.v2);have zI:=c_Shift Q P 4 ae bQ bP;have r1:rl 1=1:=rfl;have rS:=hp.s1;have rT:=hp.t1;have rS':=hz.s1;have rT':=hz.t1;have rr:∀ {x:Rat},rl x<=1->bdS 3 (x,x+1):=fun {x} h=>by have:=rl_add x 1;exact⟨by show rl x<=3;omega,by show rl (x+1)<=3;omega⟩
 have v7:=c_Within (S,S+1) na 3 ae (rr rS) ha;have rW:=c_Within (T,T+1) nb 3 ae (rr rT) hb;have qq:=c_Within (S',S'+1) nc 3 ae (rr rS') hc;have uo:=c_Within (T',T'+1) ne 3 ae (rr rT') he;rw [wi_one] at v7 rW qq uo;have q0:=wi_rl rS na;have q1:=wi_rl rT nb;have q2:=wi_rl rS' nc;have q3:=wi_rl rT' ne;have v0:=ptV_rl na;have v2:=ptV_rl nc;have q7:=c_evT (kp 0 ae) (t:=S+ptV na) (s:=T+ptV nb) (wi_in _ _) (wi_in _ _) J J (by show rl ((S+ptV na-S)/(S+1-S))<=8;rw [par_one];omega);have rG:=c_evT (kz 0 ae) (t:=S'+ptV nc) (s:=T'+ptV ne) (wi_in _ _) (wi_in _ _) J J (by show rl ((S'+ptV nc-S')/(S'+1-S'))<=8;rw [par_one];omega);simp only [par_one] at q7 rG;rw [<-hP] at q7;rw [<-hQ] at rG;have main:=c_two19H l na nb nc ne v k1 k2 k3 U V W Y _ _ _ _ rows kR eO _ _ _ _ _ _ _ _ P Q iz mW uK jA kh n5 (c_domT (kp 0 ae)) (c_domT (kz 0 ae)) v7 rW qq uo q7 rG zI oP;refine⟨⟨U,V,S,S+1,T,T+1,rows⟩,⟨W,Y,S',S'+1,T',T'+1,mpR (mvP (shM (v3s P Q))) eO⟩,_,_,_,_,⟨fun Dp h=>⟨_,_,kp Dp h⟩,fun Dp h=>⟨_,_,kq Dp h⟩,wi_in _ _,wi_in _ _,wi_in _ _,wi_in _ _,⟨q0,q1,q2,q3⟩,by show rl ((S+ptV na-S)/(S+1-S))<=1;rw [par_one];exact v0,by show rl ((T+ptV nb-T)/(T+1-T))<=1;rw [par_one];exact ptV_rl nb,by show rl ((S'+ptV nc-S')/(S'+1-S'))<=1;rw [par_one];exact v2,by show rl ((T'+ptV ne-T')/(T'+1-T'))<=1;rw [par_one];exact ptV_rl ne,fun k hk=>?_⟩,main⟩
 show ptK U V rows.flatten k ((S+ptV na-S)/(S+1-S)) ((T+ptV nb-T)/(T+1-T))=ptK W Y (mpR (mvP (shM (v3s P Q))) eO).flatten k ((S'+ptV nc-S')/(S'+1-S')) ((T'+ptV ne-T')/(T'+1-T'));rw [par_one,par_one,par_one,par_one,sh_ptK hz.sv _ pZ (kq 0 ae).pf (ptV_in nc).1 (ptV_in nc).2 (ptV_in ne).1 (ptV_in ne).2 hk,<-pe_ptK _ _ _ _ _ hk,<-pe_ptK _ _ _ _ _ hk,<-hP,<-hQ,v3s_at];grind
def comP (p q:PaT) (P:Nat->Rat):Prop:=∀ k,k<3->ptK p.U p.V p.r.flatten k ((P 0-p.a)/(p.b-p.a)) ((P 1-p.c)/(p.d-p.c))=ptK q.U q.V q.r.flatten k ((P 2-q.a)/(q.b-q.a)) ((P 3-q.c)/(q.d-q.c))
structure cellS (a b:Rat) (s:Sp):Prop where
 r1:rl s.1<=32
 r2:rl s.2<=32
 lt:s.1<s.2
 ia:a<=s.1
 ib:s.2<=b
 ow:∀ n,rl ((wiV s n-a)/(b-a))<=8
theorem cellS_of {a b:Rat} {Dp:Nat} {σ:Sp} (aW:a<b) (ra:rl a<=9) (rb:rl b<=9) (hD:Dp<=23) (h:sgS Dp σ):cellS a b (afS a b σ):=by
 have hr:=h.rl J;obtain⟨_,_,s3,s4,s5⟩:=h;have a1:=af_rl ra rb hr.1;have a2:=af_rl ra rb hr.2;refine⟨by show rl (a+(b-a)*σ.1)<=_;omega,by show rl (a+(b-a)*σ.2)<=_;omega,af_lt aW s4,(af_in aW s3 ay).1,(af_in aW ay s5).2,fun n=>?_⟩;have e:wiV (afS a b σ) n=a+(b-a)*(σ.1+ptV n*(σ.2-σ.1)):=by
  show a+(b-a)*σ.1+ptV n*(a+(b-a)*σ.2-(a+(b-a)*σ.1))=_;grind
 rw [e,af_own aW];have h0:=ptV_rl n;have h1:=rl_sub σ.2 σ.1;have h2:=rl_mul (ptV n) (σ.2-σ.1);have h3:=rl_add σ.1 (ptV n*(σ.2-σ.1));omega
structure cel19 (p q:PaT) (c:CelT) (s t u v:Sp):Prop where
 e1:c.1=[s,t]
 e2:c.2.1=[u,v]
 k3:c.2.2.2<=3
 kd:c.2.2.1<=4
 ps:cellS p.a p.b s
 pt:cellS p.c p.d t
 pu:cellS q.a q.b u
 pv:cellS q.c q.d v
 once:c.2.2.1=4->∀ P Q:Nat->Rat,comP p q P->comP p q Q->hasL [s,t,u,v] 4 P->hasL [s,t,u,v] 4 Q->P c.2.2.2=Q c.2.2.2->∀ k,k<4->P k=Q k
theorem lkS_kd (X Y:Bx3) (K:Nat):kindV (lkS X Y K)<=4/\kV (lkS X Y K)<=3/\(kindV (lkS X Y K)=4->K<4/\kV (lkS X Y K)=K):=by
 unfold lkS tsV;split
 ·split
  ·rename_i h;exact⟨an _,by show K<=3;omega,fun _=>⟨h,rfl⟩⟩
  exact⟨by decide,by decide,fun h=>absurd h ae⟩
 exact⟨by decide,by decide,fun h=>absurd h ae⟩
theorem cel_of {p q:PaT} {Dp D N D' N':Nat} (hp:kPa p Dp D N) (hq:kPa q Dp D' N') (hD:Dp<=23) {c:CelT} (h:celOf 2 (lkT p q) (agJ Dp p q) c):∃ s t u v,cel19 p q c s t u v:=by
 obtain⟨x,hx,hc⟩:=h;obtain⟨s,t,u,v,_,_,_,_,e,_,_,hd,hs,ht,hu,hv⟩:=hx;have hs:=hs.up hd;have ht:=ht.up hd;have hu:=hu.up hd;have hv:=hv.up hd;have g1:=cellS_of hp.hu hp.ra hp.rb hD hs;have g2:=cellS_of hp.hv hp.rc hp.rd hD ht;have g3:=cellS_of hq.hu hq.ra hq.rb hD hu;have g4:=cellS_of hq.hv hq.rc hq.rd hD hv;refine⟨afS p.a p.b s,afS p.c p.d t,afS q.a q.b u,afS q.c q.d v,?_⟩;rcases hc with rfl | rfl
 ·exact⟨by unfold celB;rw [e];rfl,by unfold celB;rw [e];rfl,by show kV (false,0,0)<=3;decide,by show kindV (false,0,0)<=4;decide,g1,g2,g3,g4,fun h=>absurd (show kindV (false,0,0)=4 from h) ae⟩
 have el:lkT p q (x.1.take 2) (x.1.drop 2)=lkS (paX p (afS p.a p.b s) (afS p.c p.d t)) (paX q (afS q.a q.b u) (afS q.c q.d v)) (kS (frB p q (afS p.a p.b s) (afS p.c p.d t) (afS q.a q.b u) (afS q.c q.d v))):=by rw [e];rfl
 obtain⟨k1,k2,k3⟩:=lkS_kd (paX p (afS p.a p.b s) (afS p.c p.d t)) (paX q (afS q.a q.b u) (afS q.c q.d v)) (kS (frB p q (afS p.a p.b s) (afS p.c p.d t) (afS q.a q.b u) (afS q.c q.d v)));rw [<-el] at k1 k2 k3;refine⟨by unfold celB;rw [e];rfl,by unfold celB;rw [e];rfl,k2,k1,g1,g2,g3,g4,fun h P Q hP hQ iP iQ hc=>?_⟩;obtain⟨k4,k5⟩:=k3 h;have hc:P (kV (lkT p q (x.1.take 2) (x.1.drop 2)))=Q (kV (lkT p q (x.1.take 2) (x.1.drop 2))):=hc;rw [k5] at hc;exact lkT_once hp hq hD hs ht hu hv ((kS_spec _).2.2 k4) hP hQ iP iQ k4 hc
theorem hasL4 {s t u v:Sp} {a b c d:Rat} (h0:inSp s a) (h1:inSp t b) (h2:inSp u c) (h3:inSp v d):hasL [s,t,u,v] 4 (pr4 a b c d):=⟨rfl,fun i hi=>by
 rcases(show i=0\/i=1\/i=2\/i=3 by omega) with rfl | rfl | rfl | rfl
 ·exact h0
 ·exact h1
 ·exact h2
 exact h3⟩
theorem once_no {p q:PaT} {c:CelT} {s t u v:Sp} (h:cel19 p q c s t u v) (h4:c.2.2.1=4) {w0 w1 w2 w3 v0 v1 v2 v3:Rat} (hP:comP p q (pr4 w0 w1 w2 w3)) (hQ:comP p q (pr4 v0 v1 v2 v3)) (hw:hasL [s,t,u,v] 4 (pr4 w0 w1 w2 w3)) (hv:hasL [s,t,u,v] 4 (pr4 v0 v1 v2 v3))
  (k0:c.2.2.2=0->v0=w0) (k1:c.2.2.2=1->v1=w1) (k2:c.2.2.2=2->v2=w2) (k3:c.2.2.2=3->v3=w3):w0=v0/\w1=v1/\w2=v2/\w3=v3:=by
 have g:=h.k3;have hc:pr4 w0 w1 w2 w3 c.2.2.2=pr4 v0 v1 v2 v3 c.2.2.2:=by
  rcases(show c.2.2.2=0\/c.2.2.2=1\/c.2.2.2=2\/c.2.2.2=3 by omega) with e | e | e | e
  ·rw [e];exact(k0 e).symm
  ·rw [e];exact(k1 e).symm
  ·rw [e];exact(k2 e).symm
  rw [e];exact(k3 e).symm
 have m:=h.once h4 _ _ hP hQ hw hv hc;exact⟨m 0 ae,m 1 ae,m 2 ae,m 3 ae⟩
theorem par_V {a b w v:Rat} {s:Sp} {n:Int} (h:cellS a b s) (hw:a<=w/\w<=b) (rw':rl w<=3) (ow:rl ((w-a)/(b-a))<=1) (iw:inSp s w) (hv:v=w\/v=wiV s n):(a<=v/\v<=b)/\rl v<=1000/\rl ((v-a)/(b-a))<=8/\inSp s v:=by
 rcases hv with rfl | rfl
 ·exact⟨hw,J,J,iw⟩
 have h1:=ptV_in n;have hl:=h.lt;have m1:=cO h1.1 (show 0<=s.2-s.1 by grind);have m2:=cO (show 0<=1-ptV n by grind) (show 0<=s.2-s.1 by grind);have e:wiV s n=s.1+ptV n*(s.2-s.1):=rfl;have m3:(1-ptV n)*(s.2-s.1)=s.2-s.1-ptV n*(s.2-s.1):=ay;rw [m3] at m2;have hi:inSp s (wiV s n):=by
  rw [e];unfold inSp;generalize ptV n*(s.2-s.1)=z at *
  constructor<;>grind
 have q1:=h.r1;have q2:=h.r2;have q3:=ptV_rl n;have q4:=rl_sub s.2 s.1;have q5:=rl_mul (ptV n) (s.2-s.1);have q6:=rl_add s.1 (ptV n*(s.2-s.1));exact⟨⟨cA h.ia hi.1,cA hi.2 h.ib⟩,by rw [e];omega,h.ow n,hi⟩
def hs4 (w0 w1 w2 w3:Rat) (c:CelT):Bool:=hasR (c.1.getD 0 default) w0 && hasR (c.1.getD 1 default) w1 && hasR (c.2.1.getD 0 default) w2 && hasR (c.2.1.getD 1 default) w3
def inJ (l:List CelT) (w0 w1 w2 w3:Rat):Bool:=l.any (hs4 w0 w1 w2 w3)
theorem inJ_step {l:List CelT} {w0 w1 w2 w3:Rat} {j:Nat} (h:j<l.length):inJ (l.take (j+1)) w0 w1 w2 w3=(inJ (l.take j) w0 w1 w2 w3 || hs4 w0 w1 w2 w3 (l.getD j default)):=by
 have e:l.getD j default=l[j]:=by rw [ao,aB h];rfl
 unfold inJ;rw [List.take_add_one,List.any_append,aB h,e];simp
theorem has_sp {s:Sp} {x:Rat}:hasR s x=true↔inSp s x:=by
 unfold hasR inSp;simp only [dG,decide_eq_true_eq]
theorem inJ_true {p q:PaT} {l:List CelT} {w0 w1 w2 w3:Rat} (hc:∀ c∈l,∃ s t u v,cel19 p q c s t u v) (h:∃ c∈l,hasL (c.1++c.2.1) 4 (pr4 w0 w1 w2 w3)):inJ l w0 w1 w2 w3=true:=by
 obtain⟨c,hm,g⟩:=h;obtain⟨s,t,u,v,k⟩:=hc c hm;refine List.any_eq_true.2 ⟨c,hm,?_⟩;rw [k.e1,k.e2] at g;unfold hs4;rw [k.e1,k.e2];simp only [dG];exact⟨⟨⟨has_sp.2 (g.2 0 ae),has_sp.2 (g.2 1 ae)⟩,has_sp.2 (g.2 2 ae)⟩,has_sp.2 (g.2 3 ae)⟩
theorem com_of {p q:PaT} {v0 v1 v2 v3:Rat} (h:eqV (peV p.U p.V p.r.flatten ((v0-p.a)/(p.b-p.a)) ((v1-p.c)/(p.d-p.c))) (peV q.U q.V q.r.flatten ((v2-q.a)/(q.b-q.a)) ((v3-q.c)/(q.d-q.c)))=true):comP p q (pr4 v0 v1 v2 v3):=fun k hk=>by
 rw [<-pe_ptK _ _ _ _ _ hk,<-pe_ptK _ _ _ _ _ hk];have e:=eqV_iff.1 h;exact congrArg (fun z:V3=>z.at k) e
theorem quo_in {x k:Int} (hk:1<=k) (h:-9223372036854775808<=x/\x<=9223372036854775807):-9223372036854775808<=x.tdiv k/\x.tdiv k<=9223372036854775807:=by
 have h1:(x.tdiv k).natAbs<=x.natAbs:=by rw [Int.natAbs_tdiv];exact Nat.div_le_self _ _
 rcases Int.le_total 0 x with g | g
 ·have:=abW g (show 0<=k by omega);omega
 have g2:=abW (show 0<=-x by omega) (show 0<=k by omega);rw [Int.neg_tdiv] at g2;omega
theorem quoX64 {x k:Int} (hk:1<=k) (h:-9223372036854775808<=x/\x<=9223372036854775807):binI .quo .i64 x k=some (.int .i64 (x.tdiv k)):=by
 have g:=quo_in hk h;simp only [binI];rw [if_neg J,IntWalk.i64_in _ ⟨g.1,g.2⟩]
theorem pcW_0:pcW 0=0:=ah
theorem endP_len {D W na:Nat} {wd:Rat} {lk:LookT} (C:Nat) {s:RunT} (h:s.2.2.length+muP D s.1<=C):(endP D W na wd lk s).2.2.length<=C:=by
 have:=(endP_ind (D:=D) (W:=W) (na:=na) (wd:=wd) (lk:=lk) (fun s=>s.2.2.length+muP D s.1<=C) (fun x st n cs hI=>by
  have hs:=muP_step (D:=D) (W:=W) (na:=na) (wd:=wd) (lk:=lk) (x:=x) (st:=st) (n:=n) (cs:=cs);have hl:(stepP D W na wd lk (x :: st,n,cs)).2.2.length<=cs.length+1:=by
   rw [stepP];split
   ·simp
   split
   ·simp
   split<;>simp
  have sr:cs.length+muP D (x :: st)<=C:=hI;show _+_<=C;omega) (muP D s.1) (an _) h (endP_spec D W na wd lk s)).1
 exact aw (abN _ _) this
def clT (p q:PaT) (d w:Nat):List CelT:=(endP d w 2 0 (lkT p q) ([([(p.a,p.b),(p.c,p.d)]++[(q.a,q.b),(q.c,q.d)],0,ai 4 0)],0,[])).2.2
theorem c_meetT {p q:PaT} {d D N D' N':Nat} (hp:kPa p d D N) (hq:kPa q d D' N') (hd:d<=6) (w:Nat) (hw:w<=4096):CallP aa 8 [paW p,paW q,.agg [nI64 d,nI64 w,ratL 0]] (.tup [.list 4 ((clT p q d w).map celV),iL 0]):=by
 have r0:rl 0=1:=rfl;have pa:=hp.ra;have pb:=hp.rb;have pc:=hp.rc;have pd:=hp.rd;have qa:=hq.ra;have qb:=hq.rb;have qc:=hq.rc;have qd:=hq.rd;have pu:=hp.u3;have pv:=hp.v3;have qu:=hq.u3;have qv:=hq.v3;exact c_Meet19 _ _ (paW_ob p) (paW_ob q) (p.a,p.b) (p.c,p.d) (q.a,q.b) (q.c,q.d) d w 0 J hw J (lkT p q) (agJ d p q) (c_sValG d w 0 J hw dD J)
  (c_sPatV (k:=4) hp.sv hp.D0 hp.u1 hp.u3 hp.v1 hp.v3 hp.hu hp.hv J J J J hp.n4.1 hp.n4.2 ae ae)
  (c_sPatV (k:=4) hq.sv hq.D0 hq.u1 hq.u3 hq.v1 hq.v3 hq.hu hq.hv J J J J hq.n4.1 hq.n4.2 ae ae)
  (c_PDom p.U p.V p.a p.b p.c p.d p.r J J J J hp.hu hp.hv J J)
  (c_PDom q.U q.V q.a q.b q.c q.d q.r J J J J hq.hu hq.hv J J) (c_lookT hp hq J) (agJ_beg d p q)
theorem clT_len (p q:PaT) {d w:Nat} (hd:d<=6):(clT p q d w).length<=1000:=by
 unfold clT;refine endP_len _ ?_;have hp:2 ^ d<=2 ^ 6:=gg ae hd;show 0+(2*2 ^ (d-0)-1+0)<=_;rw [Nat.sub_zero];omega
theorem clT_all {p q:PaT} {d D N D' N':Nat} (hp:kPa p d D N) (hq:kPa q d D' N') (hd:d<=6) (w:Nat) {P:Nat->Rat} (hP:comP p q P) (nJ:hasL [(p.a,p.b),(p.c,p.d),(q.a,q.b),(q.c,q.d)] 4 P) :
  (∀ c∈clT p q d w,∃ s t u v,cel19 p q c s t u v)/\∃ c∈clT p q d w,hasL (c.1++c.2.1) 4 P:=by
 have hl:=c_lookT hp hq (show d<=23 by omega);obtain⟨a,b⟩:=endP_all (D:=d) (W:=w) (na:=2) (n:=4) (wd:=0) (lk:=lkT p q) (I:=agJ d p q) (p:=P) ae (fun x hx=>(hl.len x hx).2) (fun x hx h=>agJ_half hx h) (lkT_keep hp hq J hP) (agJ_beg d p q) nJ;exact⟨fun c hc=>cel_of hp hq J (a c hc),b⟩
structure PcT where
 d:Nat
 a:Rat
 b:Rat
 po:List PoR
structure pcK (q:PcT) (Dp D N:Nat):Prop where
 d5:q.d<=3
 ab:q.a<q.b
 ra:rl q.a<=30
 rb:rl q.b<=30
 c:cvR q.po q.d 1000
 cc:cvC q.po q.d D N
 D0:0<D
 hN:N*(2 ^ Dp) ^ q.d<4294967296 ^ 100
 hD:D*(2 ^ Dp) ^ q.d<4294967296 ^ 100
def lkC (q:PcT) (s:Sp):List PoR:=cutP q.po ((s.1-q.a)/(q.b-q.a)) ((s.2-q.a)/(q.b-q.a))
def lkU (q:PcT) (s:Sp):V3:=tanW (s.2-s.1) (lkC q s) ((mdS s-s.1)/(s.2-s.1))
structure sdK (q:PcT) (s:Sp):Prop where
 len:(lkC q s).length=q.d+1
 cv:cvD (lkC q s) q.d 100
 pos:∀ z∈(lkC q s).map PoR.p,bd3 100 z
 box:bdB 100 (bxP ((lkC q s).map PoR.p))
 spd:bdB 20000000 (spdW (s.2-s.1) (lkC q s))
 tan:bd3 3700000 (lkU q s)
 cut:CallP aa 55 [.agg [nI64 q.d,.list 3 ((kn2 q.d q.a q.b).map ratL),.list 12 (q.po.map poL)],ratL s.1,ratL s.2] (.tup [.agg [nI64 q.d,.list 3 ((kn2 q.d s.1 s.2).map ratL),.list 12 ((lkC q s).map poL)],iL 0])
 bx:CallP aa 56 [.agg [nI64 q.d,.list 3 ((kn2 q.d s.1 s.2).map ratL),.list 12 ((lkC q s).map poL)]] (bxL (bxP ((lkC q s).map PoR.p)))
 sp:CallP aa 116 [.agg [nI64 q.d,.list 3 ((kn2 q.d s.1 s.2).map ratL),.list 12 ((lkC q s).map poL)]] (bxL (spdW (s.2-s.1) (lkC q s)))
 dom:CallP aa 53 [.agg [nI64 q.d,.list 3 ((kn2 q.d s.1 s.2).map ratL),.list 12 ((lkC q s).map poL)]] (spL s)
 mid:CallP aa 204 [spL s] (ratL (mdS s))
 tg:CallP aa 203 [.agg [nI64 q.d,.list 3 ((kn2 q.d s.1 s.2).map ratL),.list 12 ((lkC q s).map poL)],ratL (mdS s)] (.tup [ptL (lkU q s),iL 0])
 ends:CallP aa 120 [.agg [nI64 q.d,.list 3 ((kn2 q.d s.1 s.2).map ratL),.list 12 ((lkC q s).map poL)]] (.tup [ptL ((lkC q s).getD 0 default).p,ptL ((lkC q s).getD ((lkC q s).length-1) default).p])
namespace H_c_ints
theorem zSm {p q:Prop} (k:q) (e:p=q:=by simp only [sNF,ar,au,aq,a9,dJ,aA,bA,aQ,bc,aR,bh,aZ,aS,kills_map ratE,aN,aK,aO,reduceIte,if_true,if_false,aX,LV.kill,kills];exact rfl):p:=e.mpr k
end H_c_ints
open H_c_ints in
theorem c_ints (l:List Int) (hl:l.length<=1000) (hb:∀ x∈l,-1000<=x/\x<=1000):CallP aa 63 [.list 1 (l.map i64L)] (.list 3 ((l.map fun x:Int=>(x:Rat)).map ratL)):=by
 refine fnP Tryz.func63 ?_;have a9:True:=trivial;have dJ:True:=trivial;refine zg17 ?_;refine wl_weak (Weak.own (t:=3) 18 3 rfl rfl) ?_;refine lp1 (fun(k:Nat) L=>(mS L [(18,⟨3,((l.map fun x:Int=>(x:Rat)).take k).map ratL,true⟩)] [(4,nI64 k),(3,.ref 18 3 0 k),(0,.list 1 (l.map i64L))])) (fun k=>k<=l.length) (fun k=>l.length-k) 0 (az _) ?_;rintro k L1 hk;refine zg9 ?_;refine wl_if rfl ?_ ?_<;>intro gM h8
 ·have dk:k<l.length:=J;have dP:=hb (l.getD k 0) (by rw [ao,aB dk];exact fY dk);have dJ:=mapT (fun x:Int=>(x:Rat)) l 0 dk;have a9:(((l.map fun x:Int=>(x:Rat)).take k).map ratL).take k=((l.map fun x:Int=>(x:Rat)).take k).map ratL:=aH (by rw [aA,List.length_take];omega);have hlr:(l.map fun x:Int=>(x:Rat)).length=l.length:=aA ..;refine zg10 ?_;refine cp am1 (c_FInt (l.getD k 0) J J) ?_;refine zg1 ?_;refine st_store rfl (.appX (d:=18) (news:=[ratL ((l.getD k 0):Rat)]) rfl rfl rfl rfl al (.inl rfl) ae aV aV Z32a T32 rfl B32 (.inl ⟨17,0,_,rfl,by decide,rfl,rfl,by simp,rfl,by simp [pures,ratE.pure]⟩) al al ae) ?_;refine zg4 ?_;refine wl_regW (Weak.kill _ 17) ?_;refine zg1 ?_;refine bq ?_;exact qi
 obtain rfl:k=l.length:=J;have hE:(l.map fun x:Int=>(x:Rat)).take l.length=(l.map fun x:Int=>(x:Rat)):=aH (by rw [aA];exact an _);simp only [hE];refine zg12 ?_;exact ret1f [18] rfl rfl (imm_refm (l:=(l.map fun x:Int=>(x:Rat))) ratE rfl rfl (by rw [aA]))
open H_c_Distinct in
theorem c_14pole (p:V3):CallP aa 64 [ptL p,iL 1] (poL ⟨p,1⟩):=by
 have mR:CallP aa 21 [iL 1] (ratL 1):=c_FInt 1 ae ae;refine fnP Tryz.func64 (ht:=(fun g=>LV.ren_pure g _ (poE.pure _))) ?_;refine zg7 ?_;refine wl_regD 4 ah ?_;refine zg2 ?_;refine cp am1 (mR) ?_;refine s0bd (bdPo (p:=p) (r:=1) rfl rfl) ?_;refine zg4 ?_;exact retC [] rfl rfl rfl cs (at_all cs rfl) T119 (.pure pu)
def bilR (a b c d:V3):List (List PoR):=[[⟨a,1⟩,⟨c,1⟩],[⟨b,1⟩,⟨d,1⟩]]
namespace H_c_Bil
theorem zSm {p q:Prop} (k:q) (e:p=q:=by simp only [sNF,ar,au,aq,ptL_kill,fz0,frz_c,prL_kill,kills_map prE,dfr,dfq,bA,aQ,bc,aR,bh,aZ,aS,aN,aK,aO,reduceIte,if_true,if_false,aX,LV.kill,kills];exact rfl):p:=e.mpr k
end H_c_Bil
open H_c_Bil in
theorem c_Bil (a b c d:V3):CallP aa 22 [ptL a,ptL b,ptL c,ptL d] (.agg [nI64 1,nI64 1,.list 3 ((kn2 1 0 1).map ratL),.list 3 ((kn2 1 0 1).map ratL),.list 1 ((bilR a b c d).map prL)]):=by
 have gW:=pure_lst ratE 3 (kn2 1 0 1);have hI4:CallP aa 63 [.list 1 (([0,0,1,1]:List Int).map i64L)] (.list 3 ((kn2 1 0 1).map ratL)):=by
  have:=c_ints [0,0,1,1] ae ae;rwa [show (([0,0,1,1]:List Int).map fun x:Int=>(x:Rat))=kn2 1 0 1 from by decide +kernel] at this
 refine fnP Tryz.func22 (ht:=(fun g=>LV.ren_pure g _ bH)) ?_;refine zg11 ?_;refine st_alloc rfl rfl (.lit4 (a:=0) (b:=0) (c:=1) (f:=1) i64E Tryz.underlying127 (show ZeroOK _ _ (i64L 0) from Z2) T2 rfl rfl rfl rfl ae ae) ?_;refine st_callPf [10] rfl rfl (.cons (imm_refm (l:=[0,0,1,1]) i64E rfl rfl rfl) .nil) (hI4) ?_;refine zg4 ?_;refine wl_regAW ((((Weak.boxp (t:=4) (b:=4) rfl rfl (ptE.csize _) rfl (ptE.pure _)).trans (Weak.boxp (t:=5) (b:=5) rfl rfl (by simp only [ptL_kill];exact ptE.csize _) (by simp only [ptL_kill];rfl) (by simp only [ptL_kill];exact ptE.pure _))).trans (Weak.boxp (t:=6) (b:=6) rfl rfl (by simp only [ptL_kill];exact ptE.csize _) (by simp only [ptL_kill];rfl) (by simp only [ptL_kill];exact ptE.pure _))).trans (Weak.boxp (t:=7) (b:=7) rfl rfl (by simp only [ptL_kill];exact ptE.csize _) (by simp only [ptL_kill];rfl) (by simp only [ptL_kill];exact ptE.pure _))) ?_;refine zSm ?_;refine any_hoistC 0 rfl rfl ah (.pure (.move _)) (fun b=>LV.kill_pure b _ gW) fmA ?_;refine any_hoistC 2 rfl rfl ah (.pure (.move _)) (fun b=>LV.kill_pure b _ gW) fmA ?_;refine any_hoistC 4 rfl rfl ah (.pure (.ldbx (c:=ptL a) rfl (ptE.pure a) (ptE.csize a) rfl)) (fun b=>ptL_kill _ b) fmA ?_;refine any_hoistC 6 rfl rfl ah (.pure (.ldbx (c:=ptL c) rfl (ptE.pure c) (ptE.csize c) rfl)) (fun b=>ptL_kill _ b) fmA ?_
 refine any_hoistC 9 rfl rfl ah (.pure (.ldbx (c:=ptL b) rfl (ptE.pure b) (ptE.csize b) rfl)) (fun b=>ptL_kill _ b) fmA ?_;refine any_hoistC 11 rfl rfl ah (.pure (.ldbx (c:=ptL d) rfl (ptE.pure d) (ptE.csize d) rfl)) (fun b=>ptL_kill _ b) fmA ?_;refine any_1 1 _ ah rfl ?_;refine fQ ?_;refine any_1 3 _ ah rfl ?_;refine st_store rfl (.appX (d:=13) (news:=(kn2 1 0 1).map ratL) rfl rfl rfl rfl aj (.inl rfl) ae aV aV Z32a T32 rfl B32 (.inr (.inl rfl)) (by simp [kn2_len]) (by simp [kn2_len]) ae) ?_;refine st_nil ?_;refine any_1 5 _ ah rfl ?_;refine zSm ?_;refine st_callP rfl (.cons (.pure (ptE.pure a)) (.cons (.pure rfl) .nil)) (c_14pole a) ?_;refine st_nil ?_;refine any_1 7 _ ah rfl ?_;refine st_callP rfl (.cons (.pure (ptE.pure c)) (.cons (.pure rfl) .nil)) (c_14pole c) ?_;refine st_nil ?_;refine any_2 8 10 _ _ ah rfl rfl ?_ ?_
 ·refine wX ?_;refine st_nil ?_;refine any_1 10 _ ah rfl ?_;refine st_callP rfl (.cons (.pure (ptE.pure b)) (.cons (.pure rfl) .nil)) (c_14pole b) ?_;refine st_nil ?_;refine any_1 12 _ ah rfl ?_;refine st_callP rfl (.cons (.pure (ptE.pure d)) (.cons (.pure rfl) .nil)) (c_14pole d) ?_;refine aat ?_;refine wM ?_;exact wN
 refine st_callP rfl (.cons (.pure (ptE.pure b)) (.cons (.pure rfl) .nil)) (c_14pole b) ?_;refine st_nil ?_;refine any_2 8 12 _ _ ah rfl rfl ?_ ?_
 ·refine wX ?_;refine st_nil ?_;refine any_1 12 _ ah rfl ?_;refine st_callP rfl (.cons (.pure (ptE.pure d)) (.cons (.pure rfl) .nil)) (c_14pole d) ?_;refine aat ?_;refine wM ?_;exact wN
 refine st_callP rfl (.cons (.pure (ptE.pure d)) (.cons (.pure rfl) .nil)) (c_14pole d) ?_;refine st_nil ?_;refine any_2 8 13 _ _ ah rfl rfl ?_ ?_
 ·refine wX ?_;refine aat ?_;refine wM ?_;exact wN
 refine st_alloc rfl rfl (.lit2 (a:=⟨b,1⟩) (b:=⟨d,1⟩) (z:=⟨⟨0,0,0⟩,0⟩) poE Tryz.underlying59 (show ZeroOK _ _ (poL ⟨⟨0,0,0⟩,0⟩) from Z119) T119 rfl rfl ae ae) ?_;refine st_nil ?_;refine any_1 8 _ ah rfl ?_;refine wX ?_;refine st_nil ?_;refine any_1 14 _ ah rfl ?_;refine st_alloc rfl rfl (.lit (z:=prL []) (sz:=1) Tryz.underlying27 prZ T59 rfl ae ae ae adI) ?_;refine wM ?_;exact wN
def sqF (z:Rat):List (List PoR):=bilR ⟨0,0,z⟩ ⟨1,0,z⟩ ⟨0,1,z⟩ ⟨1,1,z⟩
def waF (x h:Rat):List (List PoR):=bilR ⟨x,0,-h⟩ ⟨x,1,-h⟩ ⟨x,0,h⟩ ⟨x,1,h⟩
theorem sv_bil {a b c d:V3} {D N:Nat} (h:∀ p∈[a,b,c,d],cdQ D N p.x/\cdQ D N p.y/\cdQ D N p.z) (h1:cdQ D N 1):svC 1 1 (bilR a b c d) D N:=by
 have key:∀ p:V3,cdQ D N p.x/\cdQ D N p.y/\cdQ D N p.z->∀ k,cdQ D N (qc (hoQ ⟨p,1⟩) k):=fun p hp k=>by
  have o:∀ {x:Rat},cdQ D N x->cdQ D N (1*x):=fun h=>by rw [fN];exact h
  match k with
  | 0=>exact o hp.1
  | 1=>exact o hp.2.1
  | 2=>exact o hp.2.2
  | k+3=>exact h1
 have hi:∀ {i:Nat},i<=1->i=0\/i=1:=fun h=>by omega
 refine⟨rfl,fun r hr=>?_,fun k i j h2 h3=>?_,fun i j h2 h3=>?_⟩
 ·have hr:r∈[[(⟨a,1⟩:PoR),⟨c,1⟩],[⟨b,1⟩,⟨d,1⟩]]:=hr;simp only [bp,cN,or_false] at hr;rcases hr with rfl | rfl<;>rfl
 ·rcases hi h2 with rfl | rfl<;>rcases hi h3 with rfl | rfl
  ·exact key a (h a aj) k
  ·exact key c (h c aj) k
  ·exact key b (h b aj) k
  exact key d (h d aj) k
 rcases hi h2 with rfl | rfl<;>rcases hi h3 with rfl | rfl<;>(show (0:Rat)<1;decide +kernel)
def paF (r:List (List PoR)):PaT:=⟨1,1,0,1,0,1,r⟩
theorem kPa_F {a b c d:V3} (h:∀ p∈[a,b,c,d],∀ x∈[p.x,p.y,p.z],x=0\/x=1\/x=-1\/x=1/3):kPa (paF (bilR a b c d)) 0 3 3:=by
 have r0:rl 0<=9:=ah;have r1:rl 1<=9:=ah;have lt:(0:Rat)<1:=ah;have o:cdQ 3 3 1:=⟨3,by decide +kernel,by decide⟩;have k:∀ x:Rat,x=0\/x=1\/x=-1\/x=1/3->cdQ 3 3 x:=fun x hx=>by
  rcases hx with rfl | rfl | rfl | rfl
  ·exact⟨0,by decide +kernel,by decide⟩
  ·exact o
  ·exact⟨-3,by decide +kernel,by decide⟩
  exact⟨1,by decide +kernel,by decide⟩
 exact⟨an 1,(by decide:1<=3),an 1,(by decide:1<=3),lt,lt,r0,r1,r0,r1,sv_bil (fun p hp=>⟨k _ (h p hp _ aj),k _ (h p hp _ aj),k _ (h p hp _ aj)⟩) o,by decide,(by decide:3*(2 ^ 0) ^ 1*(2 ^ 0) ^ 1<4294967296 ^ 4),(by decide:3*(2 ^ 0) ^ 1*(2 ^ 0) ^ 1<4294967296 ^ 4)⟩
theorem kF_sq:∀ z:Rat,z=0\/z=1->kPa (paF (sqF z)) 0 3 3:=fun z hz=>kPa_F fun p hp x hx=>by
 simp only [bp,cN,or_false] at hp;rcases hp with rfl | rfl | rfl | rfl<;>simp only [bp,cN,or_false] at hx<;>rcases hx with rfl | rfl | rfl<;>first | exact .inl rfl | exact .inr (.inl rfl) | exact hz.elim .inl fun e=>.inr (.inl e)
theorem kF_wa:kPa (paF (waF (1/3) 1)) 0 3 3:=kPa_F fun p hp x hx=>by
 simp only [bp,cN,or_false] at hp;rcases hp with rfl | rfl | rfl | rfl<;>simp only [bp,cN,or_false] at hx<;>rcases hx with rfl | rfl | rfl<;>first | exact .inl rfl | exact .inr (.inl rfl) | exact .inr (.inr (.inl rfl)) | exact .inr (.inr (.inr rfl))
theorem clF:clT (paF (sqF 0)) (paF (waF (1/3) 1)) 0 9=[([((0,1):Sp),(0,1)],[((0,1):Sp),(0,1)],4,1)]/\clT (paF (sqF 0)) (paF (sqF 1)) 0 9=[]:=ah
open H_c_PDom in
theorem c_sq0 :CallP aa 23 [iL 0] (.agg [nI64 1,nI64 1,.list 3 ((kn2 1 0 1).map ratL),.list 3 ((kn2 1 0 1).map ratL),.list 1 ((sqF 0).map prL)]):=by
 have bK:LV.pure (.agg [nI64 1,nI64 1,.list 3 ((kn2 1 0 1).map ratL),.list 3 ((kn2 1 0 1).map ratL),.list 1 ((sqF 0).map prL)])=true:=bH;have hI:CallP aa 21 [iL 0] (ratL 0):=c_FInt 0 ae ae;have pC:CallP aa 65 [ptL (⟨0,0,0⟩:V3),ptL (⟨1,0,0⟩:V3)] (ptL (⟨1,0,0⟩:V3)):=by
  have:=c_FVAdd (⟨0,0,0⟩:V3) (⟨1,0,0⟩:V3) 10 ae ⟨by decide +kernel,by decide +kernel,by decide +kernel⟩ ⟨by decide +kernel,by decide +kernel,by decide +kernel⟩;rwa [show v3a (⟨0,0,0⟩:V3) (⟨1,0,0⟩:V3)=(⟨1,0,0⟩:V3) from by unfold v3a;simp;try decide +kernel] at this
 have lp:CallP aa 65 [ptL (⟨0,0,0⟩:V3),ptL (⟨0,1,0⟩:V3)] (ptL (⟨0,1,0⟩:V3)):=by
  have:=c_FVAdd (⟨0,0,0⟩:V3) (⟨0,1,0⟩:V3) 10 ae ⟨by decide +kernel,by decide +kernel,by decide +kernel⟩ ⟨by decide +kernel,by decide +kernel,by decide +kernel⟩;rwa [show v3a (⟨0,0,0⟩:V3) (⟨0,1,0⟩:V3)=(⟨0,1,0⟩:V3) from by unfold v3a;simp;try decide +kernel] at this
 have vS:CallP aa 65 [ptL (⟨1,0,0⟩:V3),ptL (⟨0,1,0⟩:V3)] (ptL (⟨1,1,0⟩:V3)):=by
  have:=c_FVAdd (⟨1,0,0⟩:V3) (⟨0,1,0⟩:V3) 10 ae ⟨by decide +kernel,by decide +kernel,by decide +kernel⟩ ⟨by decide +kernel,by decide +kernel,by decide +kernel⟩;rwa [show v3a (⟨1,0,0⟩:V3) (⟨0,1,0⟩:V3)=(⟨1,1,0⟩:V3) from by unfold v3a;simp;try decide +kernel] at this
 have hA4:CallP aa 65 [ptL (⟨0,0,0⟩:V3),ptL (⟨1,1,0⟩:V3)] (ptL (⟨1,1,0⟩:V3)):=by
  have:=c_FVAdd (⟨0,0,0⟩:V3) (⟨1,1,0⟩:V3) 10 ae ⟨by decide +kernel,by decide +kernel,by decide +kernel⟩ ⟨by decide +kernel,by decide +kernel,by decide +kernel⟩;rwa [show v3a (⟨0,0,0⟩:V3) (⟨1,1,0⟩:V3)=(⟨1,1,0⟩:V3) from by unfold v3a;simp;try decide +kernel] at this
 have wi:CallP aa 22 [ptL ⟨0,0,0⟩,ptL ⟨1,0,0⟩,ptL ⟨0,1,0⟩,ptL ⟨1,1,0⟩] (.agg [nI64 1,nI64 1,.list 3 ((kn2 1 0 1).map ratL),.list 3 ((kn2 1 0 1).map ratL),.list 1 ((sqF 0).map prL)]):=c_Bil ⟨0,0,0⟩ ⟨1,0,0⟩ ⟨0,1,0⟩ ⟨1,1,0⟩;refine fnP abo (ht:=(fun g=>LV.ren_pure g _ bH)) ?_;refine zg7 ?_;refine cp am1 (c_Unit0) ?_;refine cp am1 (c_Unit1) ?_;refine fu ?_;refine fu ?_;refine zg1 ?_;refine cp am1 (hI) ?_;refine zg10 ?_;refine wl_regD 13 ah ?_;refine zg3 ?_;refine cp am2 (pC) ?_;refine zg2 ?_;refine cp am2 (lp) ?_;refine zg3 ?_;refine cp am2 (vS) ?_;refine cp am2 (hA4) ?_;refine cp am4 (wi) ?_;refine zg4 ?_;exact retC [] rfl rfl rfl cs (at_all cs rfl) T29 (.pure bK)
open H_c_PDom in
theorem c_sq1 :CallP aa 23 [iL 1] (.agg [nI64 1,nI64 1,.list 3 ((kn2 1 0 1).map ratL),.list 3 ((kn2 1 0 1).map ratL),.list 1 ((sqF 1).map prL)]):=by
 have bK:LV.pure (.agg [nI64 1,nI64 1,.list 3 ((kn2 1 0 1).map ratL),.list 3 ((kn2 1 0 1).map ratL),.list 1 ((sqF 1).map prL)])=true:=bH;have hI:CallP aa 21 [iL 1] (ratL 1):=c_FInt 1 ae ae;have pC:CallP aa 65 [ptL (⟨0,0,1⟩:V3),ptL (⟨1,0,0⟩:V3)] (ptL (⟨1,0,1⟩:V3)):=by
  have:=c_FVAdd (⟨0,0,1⟩:V3) (⟨1,0,0⟩:V3) 10 ae ⟨by decide +kernel,by decide +kernel,by decide +kernel⟩ ⟨by decide +kernel,by decide +kernel,by decide +kernel⟩;rwa [show v3a (⟨0,0,1⟩:V3) (⟨1,0,0⟩:V3)=(⟨1,0,1⟩:V3) from by unfold v3a;simp;try decide +kernel] at this
 have lp:CallP aa 65 [ptL (⟨0,0,1⟩:V3),ptL (⟨0,1,0⟩:V3)] (ptL (⟨0,1,1⟩:V3)):=by
  have:=c_FVAdd (⟨0,0,1⟩:V3) (⟨0,1,0⟩:V3) 10 ae ⟨by decide +kernel,by decide +kernel,by decide +kernel⟩ ⟨by decide +kernel,by decide +kernel,by decide +kernel⟩;rwa [show v3a (⟨0,0,1⟩:V3) (⟨0,1,0⟩:V3)=(⟨0,1,1⟩:V3) from by unfold v3a;simp;try decide +kernel] at this
 have vS:CallP aa 65 [ptL (⟨1,0,0⟩:V3),ptL (⟨0,1,0⟩:V3)] (ptL (⟨1,1,0⟩:V3)):=by
  have:=c_FVAdd (⟨1,0,0⟩:V3) (⟨0,1,0⟩:V3) 10 ae ⟨by decide +kernel,by decide +kernel,by decide +kernel⟩ ⟨by decide +kernel,by decide +kernel,by decide +kernel⟩;rwa [show v3a (⟨1,0,0⟩:V3) (⟨0,1,0⟩:V3)=(⟨1,1,0⟩:V3) from by unfold v3a;simp;try decide +kernel] at this
 have hA4:CallP aa 65 [ptL (⟨0,0,1⟩:V3),ptL (⟨1,1,0⟩:V3)] (ptL (⟨1,1,1⟩:V3)):=by
  have:=c_FVAdd (⟨0,0,1⟩:V3) (⟨1,1,0⟩:V3) 10 ae ⟨by decide +kernel,by decide +kernel,by decide +kernel⟩ ⟨by decide +kernel,by decide +kernel,by decide +kernel⟩;rwa [show v3a (⟨0,0,1⟩:V3) (⟨1,1,0⟩:V3)=(⟨1,1,1⟩:V3) from by unfold v3a;simp;try decide +kernel] at this
 have wi:CallP aa 22 [ptL ⟨0,0,1⟩,ptL ⟨1,0,1⟩,ptL ⟨0,1,1⟩,ptL ⟨1,1,1⟩] (.agg [nI64 1,nI64 1,.list 3 ((kn2 1 0 1).map ratL),.list 3 ((kn2 1 0 1).map ratL),.list 1 ((sqF 1).map prL)]):=c_Bil ⟨0,0,1⟩ ⟨1,0,1⟩ ⟨0,1,1⟩ ⟨1,1,1⟩;refine fnP abo (ht:=(fun g=>LV.ren_pure g _ bH)) ?_;refine zg7 ?_;refine cp am1 (c_Unit0) ?_;refine cp am1 (c_Unit1) ?_;refine fu ?_;refine fu ?_;refine zg1 ?_;refine cp am1 (hI) ?_;refine zg10 ?_;refine wl_regD 13 ah ?_;refine zg3 ?_;refine cp am2 (pC) ?_;refine zg2 ?_;refine cp am2 (lp) ?_;refine zg3 ?_;refine cp am2 (vS) ?_;refine cp am2 (hA4) ?_;refine cp am4 (wi) ?_;refine zg4 ?_;exact retC [] rfl rfl rfl cs (at_all cs rfl) T29 (.pure bK)
namespace H_c_awake19
theorem zSm {p q:Prop} (k:q) (e:p=q:=by simp only [sNF,ar,au,aq,List.getD_cons_zero,prL_kill,kills_map prE,dfr,dfq,bA,aQ,bc,aR,bh,aZ,aS,aN,aK,aO,reduceIte,if_true,if_false,aX,LV.kill,kills];exact rfl):p:=e.mpr k
end H_c_awake19
open H_c_awake19 in
theorem c_awake19 :CallP aa 6 [] (bL true):=by
 have jT:LV.pure (.agg [nI64 1,nI64 1,.list 3 ((kn2 1 0 1).map ratL),.list 3 ((kn2 1 0 1).map ratL),.list 1 ((sqF 0).map prL)])=true:=bH;have jX:LV.pure (.agg [nI64 1,nI64 1,.list 3 ((kn2 1 0 1).map ratL),.list 3 ((kn2 1 0 1).map ratL),.list 1 ((sqF 1).map prL)])=true:=bH;have hqw:LV.pure (.agg [nI64 1,nI64 1,.list 3 ((kn2 1 0 1).map ratL),.list 3 ((kn2 1 0 1).map ratL),.list 1 ((waF (1/3) 1).map prL)])=true:=bH;have hFr:CallP aa 20 [iL 1,iL 3] (ratL (1/3)):=c_FFrac 1 3 ae ae ae ae ae;have mR:CallP aa 21 [iL 1] (ratL 1):=c_FInt 1 ae ae;have hIm:CallP aa 21 [iL (-1)] (ratL (-1)):=by
  have:=c_FInt (-1) ae ae;rwa [show (((-1:Int)):Rat)=-1 from by decide +kernel] at this
 have wi:CallP aa 22 [ptL ⟨1/3,0,-1⟩,ptL ⟨1/3,1,-1⟩,ptL ⟨1/3,0,1⟩,ptL ⟨1/3,1,1⟩] (.agg [nI64 1,nI64 1,.list 3 ((kn2 1 0 1).map ratL),.list 3 ((kn2 1 0 1).map ratL),.list 1 ((waF (1/3) 1).map prL)]):=c_Bil ⟨1/3,0,-1⟩ ⟨1/3,1,-1⟩ ⟨1/3,0,1⟩ ⟨1/3,1,1⟩;have abz:LV.pure (.agg [iL 0,iL 9,ratL 0])=true:=ny;have n5:CallP aa 8 [.agg [nI64 1,nI64 1,.list 3 ((kn2 1 0 1).map ratL),.list 3 ((kn2 1 0 1).map ratL),.list 1 ((sqF 0).map prL)],.agg [nI64 1,nI64 1,.list 3 ((kn2 1 0 1).map ratL),.list 3 ((kn2 1 0 1).map ratL),.list 1 ((waF (1/3) 1).map prL)],.agg [iL 0,iL 9,ratL 0]] (.tup [.list 4 ([(([((0,1):Sp),(0,1)],[((0,1):Sp),(0,1)],4,1):CelT)].map celV),iL 0]):=by
  have:=c_meetT (kF_sq 0 (.inl rfl)) kF_wa ae 9 ae;rw [clF.1] at this;exact this
 have oP:CallP aa 8 [.agg [nI64 1,nI64 1,.list 3 ((kn2 1 0 1).map ratL),.list 3 ((kn2 1 0 1).map ratL),.list 1 ((sqF 0).map prL)],.agg [nI64 1,nI64 1,.list 3 ((kn2 1 0 1).map ratL),.list 3 ((kn2 1 0 1).map ratL),.list 1 ((sqF 1).map prL)],.agg [iL 0,iL 9,ratL 0]] (.tup [.list 4 [],iL 0]):=by
  have:=c_meetT (kF_sq 0 (.inl rfl)) (kF_sq 1 (.inr rfl)) ae 9 ae;rw [clF.2] at this;exact this
 refine fnP Tryz.func6 ?_;refine zg7 ?_;refine cp am2 (hFr) ?_;refine cp am1 (mR) ?_;refine zg7 ?_;refine wl_regD 18 ah ?_;refine zg1 ?_;refine fu ?_;refine cp am1 (hIm) ?_;refine zg3 ?_;refine cp am1 (hIm) ?_;refine zg2 ?_;refine fu ?_;refine zg6 ?_;refine cp am4 (wi) ?_;refine zg5 ?_;refine wl_regD 9 ah ?_;refine cp am1 (c_sq0) ?_;refine zg1 ?_;refine adu ?_
 try refine zSm ?_
 refine st_callP rfl (.cons (.pure jT) (.cons (.pure hqw) (.cons (.pure abz) .nil))) (n5) ?_;refine zg9 ?_;refine cp am1 (c_sq0) ?_;refine cp am1 (c_sq1) ?_;refine adu ?_
 try refine zSm ?_
 refine st_callP rfl (.cons (.pure jT) (.cons (.pure jX) (.cons (.pure abz) .nil))) (oP) ?_;refine zg12 ?_;refine st_pure eE (.move _) ?_;refine st_pure eE lnA ?_;refine pK ?_;refine zg1 ?_;refine af0 ?_;refine st_pure eE (.idxL (n:=0) (r:=(.agg [.list 6 ([((0,1):Sp),(0,1)].map spL),.list 6 ([((0,1):Sp),(0,1)].map spL),nI64 4,nI64 1])) rfl oB T46 rfl ae rfl rfl) ?_;refine mg ?_;refine pK ?_;refine zg1 ?_;refine st_pure eE (.move _) ?_;refine pK ?_;refine zg1 ?_;refine st_pure eE (.move _) ?_;refine st_pure eE lnA ?_;refine pK ?_;refine zg4 ?_;exact dS
theorem wi_rl3 {s:Sp} {R:Nat} (h1:rl s.1<=R) (h2:rl s.2<=R) (n:Int):rl (wiV s n)<=3*R+4:=by
 have h3:=ptV_rl n;have m1:=rl_sub s.2 s.1;have m2:=rl_mul (ptV n) (s.2-s.1);have m3:=rl_add s.1 (ptV n*(s.2-s.1));show rl (s.1+ptV n*(s.2-s.1))<=_;omega
theorem Zsp4:ZeroOK aa 49 (.agg [spL (0,0),spL (0,0),spL (0,0),spL (0,0)]):=by
 have:=Z49;simpa only [spu] using this
instance:ZI aa 49 (.agg [spL (0,0),spL (0,0),spL (0,0),spL (0,0)]):=⟨Zsp4⟩
theorem bdS4 {P:Program} {H:Heap} {ρ:Operand->LV} {T E:TypeId} {o0 o1 o2 o3:Operand} {a b c d:Sp} [u:UN P T (.array 4 E)] [t:TI P E 6 true] [z:ZI P T (.agg [spL (0,0),spL (0,0),spL (0,0),spL (0,0)])] (h0:ρ o0=spL a) (h1:ρ o1=spL b) (h2:ρ o2=spL c) (h3:ρ o3=spL d) :
  OpP P H ρ (.build T #[(0,o0),(1,o1),(2,o2),(3,o3)]) (.agg [spL a,spL b,spL c,spL d]):=by
 have:=OpP.bda (H:=H) (ρ:=ρ) (ps:=#[(0,o0),(1,o1),(2,o2),(3,o3)]) (u:=u) (t:=t) (z:=z) (by simp [lay,spE.csize,spE.isAgg]) (by
  intro p hp;simp only [bp,cN,or_false] at hp;rcases hp with rfl | rfl | rfl | rfl
  ·exact⟨_,rfl,by rw [h0];simp [lay,spE.csize,spE.isAgg],by rw [h0];exact LV.pure_ne_any (spE.pure _),by rw [h0];exact LV.pure_ne_tup (spE.pure _)⟩
  ·exact⟨_,rfl,by rw [h1];simp [lay,spE.csize,spE.isAgg],by rw [h1];exact LV.pure_ne_any (spE.pure _),by rw [h1];exact LV.pure_ne_tup (spE.pure _)⟩
  ·exact⟨_,rfl,by rw [h2];simp [lay,spE.csize,spE.isAgg],by rw [h2];exact LV.pure_ne_any (spE.pure _),by rw [h2];exact LV.pure_ne_tup (spE.pure _)⟩
  exact⟨_,rfl,by rw [h3];simp [lay,spE.csize,spE.isAgg],by rw [h3];exact LV.pure_ne_any (spE.pure _),by rw [h3];exact LV.pure_ne_tup (spE.pure _)⟩)
 simpa only [buildL,jt,List.foldl,List.set,h0,h1,h2,h3] using this
namespace H_c_MeetssCovers
theorem zSm {p q:Prop} (k:q) (e:p=q:=by simp only [sNF,ar,au,aq,ekp,ekq,mf,hcy,hcx,hc9,fz0,frz_c,ptL_kill,dice_kill,kills_map celE,aA,List.getD_cons_zero,List.getD_cons_succ,aN,aK,aO,reduceIte,if_true,if_false,aX,LV.kill,kills];exact rfl):p:=e.mpr k
end H_c_MeetssCovers
open H_c_MeetssCovers in
theorem c_MeetssCovers (l:List Int) (na nb nc ne:Int) (depth work x:Int) (hl:l.length<=9223372036854775807/\∀ n∈l,-9223372036854775808<=n/\n<=9223372036854775807) (ry:-9223372036854775808<=na/\na<=9223372036854775807) (vY:-9223372036854775808<=nb/\nb<=9223372036854775807) (hnc:-9223372036854775808<=nc/\nc<=9223372036854775807) (ak:-9223372036854775808<=ne/\ne<=9223372036854775807) (hdp:-9223372036854775808<=depth/\depth<=9223372036854775807) (hwk:-9223372036854775808<=work/\work<=9223372036854775807) (hx:-9223372036854775808<=x/\x<=9223372036854775807):CallP aa 3 [.list 1 (l.map i64L),.agg [iL na,iL nb,iL nc,iL ne],iL depth,iL work,iL x] (bL true):=by
 have aG:=hl.1;obtain⟨dn,er⟩:∃ dn:Nat,depth % 7=(dn:Int):=⟨(depth % 7).toNat,J⟩;obtain⟨wn,wA⟩:∃ wn:Nat,work % 24 % 40=(wn:Int):=⟨(work % 24 % 40).toNat,J⟩;have eX:dn<=6:=J;have cS:wn<=39:=J;have hPr:CallP aa 9 [iL depth,iL (work % 24),iL 0] (.agg [nI64 dn,nI64 wn,ratL 0]):=by
  have:=c_DPrec depth (work % 24) 0 dn wn er wA;rwa [pcW_0] at this
 have hpp:LV.pure (.agg [nI64 dn,nI64 wn,ratL 0])=true:=ny;have mf:(LV.agg [ratL 0,ratL 0,ratL 0,ratL 0]).csize=12:=o5;have hc9:(LV.agg [ratL 0,ratL 0,ratL 0]).csize=9:=o5;have hcx:(LV.agg [spL (0,0),spL (0,0),spL (0,0),spL (0,0)]).csize=24:=by simp [LV.csize,csizes,spE.csize]
 have hcy:(LV.agg [.agg [ratL 0,ratL 0],.agg [ratL 0,ratL 0],.agg [ratL 0,ratL 0],.agg [ratL 0,ratL 0]]).csize=24:=o5;refine fnP Tryz.func3 ?_;have ekp:True:=trivial;have ekq:True:=trivial;refine zg10 ?_;refine cp am1 (c_Light l aG) ?_;refine zg3 ?_;refine wl_if rfl ?_ ?_<;>intro aaA yD
 ·refine zg2 ?_;refine cp am0 (c_awake19) ?_;refine zg5 ?_;exact dS
 have hl5:l.length<=500:=by simpa using yD
 obtain⟨p,q,w0,w1,w2,w3,hG,hTw⟩:=c_two19 l na nb nc ne hl5 ry vY hnc ak;obtain⟨D1,N1,xE⟩:=hG.kp dn eX;obtain⟨D2,N2,yg⟩:=hG.kq dn eX;have hM:=c_meetT xE yg eX wn J;have hLn:=clT_len p q (d:=dn) (w:=wn) eX;have hcP:comP p q (pr4 w0 w1 w2 w3):=fun k hk=>hG.e k hk;have nJ:hasL [(p.a,p.b),(p.c,p.d),(q.a,q.b),(q.c,q.d)] 4 (pr4 w0 w1 w2 w3):=hasL4 hG.i0 hG.i1 hG.i2 hG.i3;obtain⟨hK,hCo⟩:=clT_all xE yg eX wn hcP nJ;generalize clT p q dn wn=cls at hM hLn hK hCo;have dT:=paW_ob p;have jo:=paW_ob q;have ekp:=dT.kill;have ekq:=jo.kill;obtain⟨fH,bG,ir,tK⟩:=hG.r;refine zg6 ?_;refine st_callP rfl (.cons im0 (.cons (.pure rfl) (.cons im0 .nil))) hTw ?_;refine zg1 ?_;refine st_pure rfl (.extract rfl rfl (LV.pure_ne_tup dT.pu)) ?_;refine st_pure rfl (.extract rfl rfl (LV.pure_ne_tup jo.pu)) ?_;refine zg4 ?_;refine st_store rfl (.store rfl rfl rfl rfl rfl rfl (put_whole _ _ dT.cs.symm dT.ag.symm) (show TyIs _ _ (paW p).csize (paW p).isAgg by rw [dT.cs,dT.ag];exact T29) ⟨LV.pure_ne_any dT.pu,LV.pure_ne_tup dT.pu⟩) ?_;refine st_store rfl (.store rfl rfl rfl rfl rfl rfl (put_whole _ _ jo.cs.symm jo.ag.symm) (show TyIs _ _ (paW q).csize (paW q).isAgg by rw [jo.cs,jo.ag];exact T29) ⟨LV.pure_ne_any jo.pu,LV.pure_ne_tup jo.pu⟩) ?_;refine zg4 ?_;refine wl_regD 12 ah ?_
 refine st_pure rfl (.loadE (b:=11) (sz:=5) (i:=0) (o:=0) (x:=(paW p)) (r:=(paW p)) (n:=5) (ag:=true) rfl rfl rfl rfl dT.cs (at_all dT.cs dT.ag) T29) ?_;refine st_pure rfl (.loadE (b:=12) (sz:=5) (i:=0) (o:=0) (x:=(paW q)) (r:=(paW q)) (n:=5) (ag:=true) rfl rfl rfl rfl jo.cs (at_all jo.cs jo.ag) T29) ?_;refine zg2 ?_;refine cp am2 (c_Mod work 24 ae ae) ?_;refine cp am3 (hPr) ?_;refine st_callP rfl (.cons (.pure dT.pu) (.cons (.pure jo.pu) (.cons (.pure hpp) (.nil)))) hM ?_;refine zg19 ?_;refine wl_weak ((Weak.kill _ 6)) ?_;refine lp2 (fun(jj:Nat) (bb:Bool) L=>(mS L [(11,⟨5,[paW p],true⟩),(12,⟨5,[paW q],true⟩),(13,⟨12,[.agg [ratL w0,ratL w1,ratL w2,ratL w3]],true⟩)] [(17,nI64 jj),(16,bL bb),(15,iL 0),(14,.list 4 (cls.map celV)),(13,.eptr 13 12 0 0),(12,.eptr 12 5 0 0),(11,.eptr 11 5 0 0),(4,iL x)])) (fun jj bb=>jj<=cls.length/\bb=inJ (cls.take jj) w0 w1 w2 w3) (fun jj bb=>cls.length-jj) 0 false ⟨az _,rfl⟩ ?_;rintro jj bb L1 ⟨hj,hIn⟩;refine zg9 ?_;refine wl_if rfl ?_ ?_<;>intro ni h53
 ·have bo:jj<cls.length:=J;obtain⟨s,t,u,v,hc⟩:=hK (cls.getD jj default) (by rw [ao,aB bo];exact fY _);have wQ:=inJ_step (l:=cls) (w0:=w0) (w1:=w1) (w2:=w2) (w3:=w3) bo;have w8:hs4 w0 w1 w2 w3 (cls.getD jj default)=(hasR s w0 && hasR t w1 && hasR u w2 && hasR v w3):=by
   unfold hs4;rw [hc.e1,hc.e2];rfl
  have xl:cls.getD jj default=cls[jj]:=by rw [ao,aB bo];rfl
  have hcj:(cls.map celV)[((jj:Nat):Int).toNat]?=some (.agg [.list 6 ([s,t].map spL),.list 6 ([u,v].map spL),nI64 (cls.getD jj default).2.2.1,nI64 (cls.getD jj default).2.2.2]):=by
   rw [pQ,bU,aB bo,<-xl];show some (celV (cls.getD jj default))=_;unfold celV;rw [hc.e1,hc.e2]
  have qZ:=hc.k3;have mD:=hc.kd;have abp:=hc.ps.r1;have acI:=hc.ps.r2;have abt:=hc.pt.r1;have ab7:=hc.pt.r2;have acn:=hc.pu.r1;have aco:=hc.pu.r2;have adG:=hc.pv.r1;have ab5:=hc.pv.r2;refine zg8 ?_;refine st_pure rfl (.idxL (n:=((jj:Nat):Int)) (r:=.agg [.list 6 ([s,t].map spL),.list 6 ([u,v].map spL),nI64 (cls.getD jj default).2.2.1,nI64 (cls.getD jj default).2.2.2]) rfl oB T46 rfl J hcj rfl) ?_;refine zg13 ?_;refine st_pure jz faA ?_;refine st_pure jz ldA ?_;refine st_pure jz lnA ?_;refine st_pure jz (.bin rfl rfl rfl) ?_;refine st_pure rfl (.pickF rfl ((rfl))) ?_;refine zg1 ?_;refine st_pure jz faA ?_;refine st_pure jz ldA ?_;refine st_pure jz (.bin rfl rfl rfl) ?_;refine st_pure rfl (.pickF rfl ((rfl))) ?_;refine zg1 ?_;refine st_pure ij faA ?_;refine st_pure ij ldA ?_;refine xj ?_;refine zg2 ?_;refine wl_condY (b:=_) rfl (decide_eq_false J) ?_;refine zg3 ?_;refine wl_regD 18 ah ?_;refine zg2 ?_;refine st_pure rfl (.idxL (n:=0) (r:=spL s) rfl eT T48 rfl ae rfl (spE.csize _)) ?_;refine zg3 ?_;refine st_pure rfl (.idxL (n:=1) (r:=spL t) rfl eT T48 rfl ae rfl (spE.csize _)) ?_;refine zg3 ?_;refine st_pure rfl (.idxL (n:=0) (r:=spL u) rfl eT T48 rfl ae rfl (spE.csize _)) ?_;refine zg3 ?_
  refine st_pure rfl (.idxL (n:=1) (r:=spL v) rfl eT T48 rfl ae rfl (spE.csize _)) ?_;refine zg1 ?_;refine s0bd (bdS4 rfl rfl rfl rfl) ?_;refine zg16 ?_;refine lK ?_;refine wl_cut (fun L=>∃ (g0:Bool) (L1:St),(g0=hasR s w0)/\L=(mS L1 [(11,⟨5,[paW p],true⟩),(12,⟨5,[paW q],true⟩),(13,⟨12,[.agg [ratL w0,ratL w1,ratL w2,ratL w3]],true⟩),(18,⟨4,[.agg [.list 6 ([s,t].map spL),.list 6 ([u,v].map spL),nI64 (cls.getD jj default).2.2.1,nI64 (cls.getD jj default).2.2.2]],true⟩),(19,⟨24,[.agg [spL s,spL t,spL u,spL v]],true⟩)] [(21,iL 0),(20,bL g0),(19,.eptr 19 24 0 0),(18,.eptr 18 4 0 0),(17,nI64 jj),(16,bL bb),(15,iL 0),(14,.list 4 (cls.map celV)),(13,.eptr 13 12 0 0),(12,.eptr 12 5 0 0),(11,.eptr 11 5 0 0),(4,iL x)])) ?_ ?_
  ·refine wl_regD 11 ah ?_;refine zg8 ?_;refine cp am2 (c_FHas s w0 J J) ?_;refine zg4 ?_;exact⟨(hasR s w0),_,rfl,aL⟩
  rintro _ ⟨g0,zq,fO,rfl⟩;refine zg4 ?_;refine st_pure rfl (.bin rfl rfl (show binI .add .i64 0 1=some (.int .i64 1) from rfl)) ?_;refine zg3 ?_;refine lK ?_;refine wl_cut (fun L=>∃ (g1:Bool) (L1:St),(g1=(g0 && hasR t w1))/\L=(mS L1 [(11,⟨5,[paW p],true⟩),(12,⟨5,[paW q],true⟩),(13,⟨12,[.agg [ratL w0,ratL w1,ratL w2,ratL w3]],true⟩),(18,⟨4,[.agg [.list 6 ([s,t].map spL),.list 6 ([u,v].map spL),nI64 (cls.getD jj default).2.2.1,nI64 (cls.getD jj default).2.2.2]],true⟩),(19,⟨24,[.agg [spL s,spL t,spL u,spL v]],true⟩)] [(21,iL 1),(20,bL g1),(19,.eptr 19 24 0 0),(18,.eptr 18 4 0 0),(17,nI64 jj),(16,bL bb),(15,iL 0),(14,.list 4 (cls.map celV)),(13,.eptr 13 12 0 0),(12,.eptr 12 5 0 0),(11,.eptr 11 5 0 0),(4,iL x)])) ?_ ?_
  ·refine wl_regD 11 ah ?_;refine zg2 ?_;refine op_if 102 rfl ?_ ?_<;>intro acK qB
   ·refine zg6 ?_;refine cp am2 (c_FHas t w1 J J) ?_;refine zg4 ?_;exact⟨(hasR t w1),_,(by rw [show g0=true from by simpa using qB];rfl),aL⟩
   refine zg11 ?_;exact⟨false,_,(by rw [show g0=false from by simpa using qB];rfl),aL⟩
  rintro _ ⟨g1,zq,eH,rfl⟩;refine zg4 ?_;refine st_pure rfl (.bin rfl rfl (show binI .add .i64 1 1=some (.int .i64 2) from rfl)) ?_;refine zg3 ?_;refine lK ?_;refine wl_cut (fun L=>∃ (g2:Bool) (L1:St),(g2=(g1 && hasR u w2))/\L=(mS L1 [(11,⟨5,[paW p],true⟩),(12,⟨5,[paW q],true⟩),(13,⟨12,[.agg [ratL w0,ratL w1,ratL w2,ratL w3]],true⟩),(18,⟨4,[.agg [.list 6 ([s,t].map spL),.list 6 ([u,v].map spL),nI64 (cls.getD jj default).2.2.1,nI64 (cls.getD jj default).2.2.2]],true⟩),(19,⟨24,[.agg [spL s,spL t,spL u,spL v]],true⟩)] [(21,iL 2),(20,bL g2),(19,.eptr 19 24 0 0),(18,.eptr 18 4 0 0),(17,nI64 jj),(16,bL bb),(15,iL 0),(14,.list 4 (cls.map celV)),(13,.eptr 13 12 0 0),(12,.eptr 12 5 0 0),(11,.eptr 11 5 0 0),(4,iL x)])) ?_ ?_
  ·refine wl_regD 11 ah ?_;refine zg2 ?_;refine op_if 102 rfl ?_ ?_<;>intro acK qB
   ·refine zg6 ?_;refine cp am2 (c_FHas u w2 J J) ?_;refine zg4 ?_;exact⟨(hasR u w2),_,(by rw [show g1=true from by simpa using qB];rfl),aL⟩
   refine zg11 ?_;exact⟨false,_,(by rw [show g1=false from by simpa using qB];rfl),aL⟩
  rintro _ ⟨g2,zq,lh,rfl⟩;refine zg4 ?_;refine st_pure rfl (.bin rfl rfl (show binI .add .i64 2 1=some (.int .i64 3) from rfl)) ?_;refine zg3 ?_;refine lK ?_;refine wl_cut (fun L=>∃ (g3:Bool) (L1:St),(g3=(g2 && hasR v w3))/\L=(mS L1 [(11,⟨5,[paW p],true⟩),(12,⟨5,[paW q],true⟩),(13,⟨12,[.agg [ratL w0,ratL w1,ratL w2,ratL w3]],true⟩),(18,⟨4,[.agg [.list 6 ([s,t].map spL),.list 6 ([u,v].map spL),nI64 (cls.getD jj default).2.2.1,nI64 (cls.getD jj default).2.2.2]],true⟩),(19,⟨24,[.agg [spL s,spL t,spL u,spL v]],true⟩)] [(21,iL 3),(20,bL g3),(19,.eptr 19 24 0 0),(18,.eptr 18 4 0 0),(17,nI64 jj),(16,bL bb),(15,iL 0),(14,.list 4 (cls.map celV)),(13,.eptr 13 12 0 0),(12,.eptr 12 5 0 0),(11,.eptr 11 5 0 0),(4,iL x)])) ?_ ?_
  ·refine wl_regD 11 ah ?_;refine zg2 ?_;refine op_if 102 rfl ?_ ?_<;>intro acK qB
   ·refine zg6 ?_;refine cp am2 (c_FHas v w3 J J) ?_;refine zg4 ?_;exact⟨(hasR v w3),_,(by rw [show g2=true from by simpa using qB];rfl),aL⟩
   refine zg11 ?_;exact⟨false,_,(by rw [show g2=false from by simpa using qB];rfl),aL⟩
  rintro _ ⟨g3,zq,l7,rfl⟩;refine zg4 ?_;refine st_pure rfl (.bin rfl rfl (show binI .add .i64 3 1=some (.int .i64 4) from rfl)) ?_;refine zg3 ?_;refine qS ?_;refine zg12 ?_;refine wl_if rfl ?_ ?_<;>intro ahi adM
  ·have qT:g3=(hasR s w0 && hasR t w1 && hasR u w2 && hasR v w3):=by rw [l7,lh,eH,fO]
   have hgF:g3=false:=by simpa using adM
   refine zg4 ?_;refine wL ?_;exact nx2 (jj+1) bb ⟨J,by rw [wQ,w8,<-qT,hgF,Bool.or_false];exact hIn⟩
  have qT:g3=(hasR s w0 && hasR t w1 && hasR u w2 && hasR v w3):=by rw [l7,lh,eH,fO]
  have yn:g3=true:=by simpa using adM
  have hgA:=yn;rw [qT] at hgA;simp only [dG] at hgA;obtain⟨⟨⟨aeb,abl⟩,abD⟩,aep⟩:=hgA;refine zg15 ?_;refine wl_if rfl ?_ ?_<;>intro adR qV
  ·refine zg4 ?_;refine wL ?_;exact nx2 (jj+1) true ⟨J,by rw [wQ,w8,<-qT,yn,aa1]⟩
  refine zg21 ?_;refine wl_unroll ?_;refine zg7 ?_;refine wl_condX (b:=_) rfl ae ?_;refine zg12 ?_;refine wl_cut (fun L=>∃ (v0:Rat) (o0:Bool) (L1:St),((v0=w0\/v0=(wiV s (x.tdiv 1)))/\((cls.getD jj default).2.2.2=0->v0=w0)/\o0=(false || !decide (w0=v0)))/\L=(mS L1 [(11,⟨5,[paW p],true⟩),(12,⟨5,[paW q],true⟩),(13,⟨12,[.agg [ratL w0,ratL w1,ratL w2,ratL w3]],true⟩),(18,⟨4,[.agg [.list 6 ([s,t].map spL),.list 6 ([u,v].map spL),nI64 (cls.getD jj default).2.2.1,nI64 (cls.getD jj default).2.2.2]],true⟩),(19,⟨24,[.agg [spL s,spL t,spL u,spL v]],true⟩),(22,⟨12,[.agg [ratL v0,ratL w1,ratL w2,ratL w3]],true⟩)] [(24,iL 0),(23,bL o0),(22,.eptr 22 12 0 0),(19,.eptr 19 24 0 0),(18,.eptr 18 4 0 0),(17,nI64 jj),(16,bL true),(15,iL 0),(14,.list 4 (cls.map celV)),(13,.eptr 13 12 0 0),(12,.eptr 12 5 0 0),(11,.eptr 11 5 0 0),(4,iL x)])) ?_ ?_
  ·refine wl_if rfl ?_ ?_<;>intro y5 yX
   ·refine zg1 ?_;refine wl_regD 11 ah ?_;refine zg6 ?_;refine st_pure rfl (.bin rfl rfl (show binI .mul .i64 3 0=some (.int .i64 0) from rfl)) ?_;refine st_pure rfl (.bin rfl rfl (show binI .add .i64 1 0=some (.int .i64 1) from rfl)) ?_;refine st_pure rfl (.bin rfl rfl (quoX64 ae hx)) ?_;refine cp am2 (c_Within s (x.tdiv 1) 32 ae ⟨abp,acI⟩ (quo_in ae hx)) ?_;refine zg4 ?_;refine wl_regD 12 ah ?_;refine zg8 ?_;refine cp am2 (c_FSame w0 (wiV s (x.tdiv 1)) (by have:=wi_rl3 abp acI (x.tdiv 1);omega)) ?_;refine zg5 ?_;exact⟨(wiV s (x.tdiv 1)),(!decide (w0=(wiV s (x.tdiv 1)))),_,⟨.inr rfl,fun e=>absurd e J,rfl⟩,aL⟩
   refine zg2 ?_;exact⟨w0,false,_,⟨.inl rfl,fun _=>rfl,(by rw [decide_eq_true (rfl:w0=w0)];simp)⟩,aL⟩
  rintro _ ⟨v0,o0,z8,⟨qR,ew,zw⟩,rfl⟩;refine zg4 ?_;refine st_pure rfl (.bin rfl rfl (show binI .add .i64 0 1=some (.int .i64 1) from rfl)) ?_;refine zg3 ?_;refine wl_unroll ?_;refine zg7 ?_;refine wl_condX (b:=_) rfl ae ?_;refine zg12 ?_;refine wl_cut (fun L=>∃ (v1:Rat) (o1:Bool) (L1:St),((v1=w1\/v1=(wiV t (x.tdiv 4)))/\((cls.getD jj default).2.2.2=1->v1=w1)/\o1=(o0 || !decide (w1=v1)))/\L=(mS L1 [(11,⟨5,[paW p],true⟩),(12,⟨5,[paW q],true⟩),(13,⟨12,[.agg [ratL w0,ratL w1,ratL w2,ratL w3]],true⟩),(18,⟨4,[.agg [.list 6 ([s,t].map spL),.list 6 ([u,v].map spL),nI64 (cls.getD jj default).2.2.1,nI64 (cls.getD jj default).2.2.2]],true⟩),(19,⟨24,[.agg [spL s,spL t,spL u,spL v]],true⟩),(22,⟨12,[.agg [ratL v0,ratL v1,ratL w2,ratL w3]],true⟩)] [(24,iL 1),(23,bL o1),(22,.eptr 22 12 0 0),(19,.eptr 19 24 0 0),(18,.eptr 18 4 0 0),(17,nI64 jj),(16,bL true),(15,iL 0),(14,.list 4 (cls.map celV)),(13,.eptr 13 12 0 0),(12,.eptr 12 5 0 0),(11,.eptr 11 5 0 0),(4,iL x)])) ?_ ?_
  ·refine wl_if rfl ?_ ?_<;>intro y5 yX
   ·refine zg1 ?_;refine wl_regD 11 ah ?_;refine zg6 ?_;refine st_pure rfl (.bin rfl rfl (show binI .mul .i64 3 1=some (.int .i64 3) from rfl)) ?_;refine st_pure rfl (.bin rfl rfl (show binI .add .i64 1 3=some (.int .i64 4) from rfl)) ?_;refine st_pure rfl (.bin rfl rfl (quoX64 ae hx)) ?_;refine cp am2 (c_Within t (x.tdiv 4) 32 ae ⟨abt,ab7⟩ (quo_in ae hx)) ?_;refine zg4 ?_;refine wl_regD 12 ah ?_;refine zg2 ?_;refine op_if 137 rfl ?_ ?_<;>intro adz p7
    ·refine zg12 ?_;exact⟨(wiV t (x.tdiv 4)),true,_,⟨.inr rfl,fun e=>absurd e J,(by rw [show o0=true from by simpa using p7];rfl)⟩,aL⟩
    refine zg6 ?_;refine cp am2 (c_FSame w1 (wiV t (x.tdiv 4)) (by have:=wi_rl3 abt ab7 (x.tdiv 4);omega)) ?_;refine zg5 ?_;exact⟨(wiV t (x.tdiv 4)),(!decide (w1=(wiV t (x.tdiv 4)))),_,⟨.inr rfl,fun e=>absurd e J,(by rw [show o0=false from by simpa using p7];rfl)⟩,aL⟩
   refine zg2 ?_;exact⟨w1,o0,_,⟨.inl rfl,fun _=>rfl,(by rw [decide_eq_true (rfl:w1=w1)];simp)⟩,aL⟩
  rintro _ ⟨v1,o1,z8,⟨kI,fR,ho1⟩,rfl⟩;refine zg4 ?_;refine st_pure rfl (.bin rfl rfl (show binI .add .i64 1 1=some (.int .i64 2) from rfl)) ?_;refine zg3 ?_;refine wl_unroll ?_;refine zg7 ?_;refine wl_condX (b:=_) rfl ae ?_;refine zg12 ?_;refine wl_cut (fun L=>∃ (v2:Rat) (o2:Bool) (L1:St),((v2=w2\/v2=(wiV u (x.tdiv 7)))/\((cls.getD jj default).2.2.2=2->v2=w2)/\o2=(o1 || !decide (w2=v2)))/\L=(mS L1 [(11,⟨5,[paW p],true⟩),(12,⟨5,[paW q],true⟩),(13,⟨12,[.agg [ratL w0,ratL w1,ratL w2,ratL w3]],true⟩),(18,⟨4,[.agg [.list 6 ([s,t].map spL),.list 6 ([u,v].map spL),nI64 (cls.getD jj default).2.2.1,nI64 (cls.getD jj default).2.2.2]],true⟩),(19,⟨24,[.agg [spL s,spL t,spL u,spL v]],true⟩),(22,⟨12,[.agg [ratL v0,ratL v1,ratL v2,ratL w3]],true⟩)] [(24,iL 2),(23,bL o2),(22,.eptr 22 12 0 0),(19,.eptr 19 24 0 0),(18,.eptr 18 4 0 0),(17,nI64 jj),(16,bL true),(15,iL 0),(14,.list 4 (cls.map celV)),(13,.eptr 13 12 0 0),(12,.eptr 12 5 0 0),(11,.eptr 11 5 0 0),(4,iL x)])) ?_ ?_
  ·refine wl_if rfl ?_ ?_<;>intro y5 yX
   ·refine zg1 ?_;refine wl_regD 11 ah ?_;refine zg6 ?_;refine st_pure rfl (.bin rfl rfl (show binI .mul .i64 3 2=some (.int .i64 6) from rfl)) ?_;refine st_pure rfl (.bin rfl rfl (show binI .add .i64 1 6=some (.int .i64 7) from rfl)) ?_;refine st_pure rfl (.bin rfl rfl (quoX64 ae hx)) ?_;refine cp am2 (c_Within u (x.tdiv 7) 32 ae ⟨acn,aco⟩ (quo_in ae hx)) ?_;refine zg4 ?_;refine wl_regD 12 ah ?_;refine zg2 ?_;refine op_if 137 rfl ?_ ?_<;>intro adz p7
    ·refine zg12 ?_;exact⟨(wiV u (x.tdiv 7)),true,_,⟨.inr rfl,fun e=>absurd e J,(by rw [show o1=true from by simpa using p7];rfl)⟩,aL⟩
    refine zg6 ?_;refine cp am2 (c_FSame w2 (wiV u (x.tdiv 7)) (by have:=wi_rl3 acn aco (x.tdiv 7);omega)) ?_;refine zg5 ?_;exact⟨(wiV u (x.tdiv 7)),(!decide (w2=(wiV u (x.tdiv 7)))),_,⟨.inr rfl,fun e=>absurd e J,(by rw [show o1=false from by simpa using p7];rfl)⟩,aL⟩
   refine zg2 ?_;exact⟨w2,o1,_,⟨.inl rfl,fun _=>rfl,(by rw [decide_eq_true (rfl:w2=w2)];simp)⟩,aL⟩
  rintro _ ⟨v2,o2,z8,⟨vZ,dk,pF⟩,rfl⟩;refine zg4 ?_;refine st_pure rfl (.bin rfl rfl (show binI .add .i64 2 1=some (.int .i64 3) from rfl)) ?_;refine zg3 ?_;refine wl_unroll ?_;refine zg7 ?_;refine wl_condX (b:=_) rfl ae ?_;refine zg12 ?_;refine wl_cut (fun L=>∃ (v3:Rat) (o3:Bool) (L1:St),((v3=w3\/v3=(wiV v (x.tdiv 10)))/\((cls.getD jj default).2.2.2=3->v3=w3)/\o3=(o2 || !decide (w3=v3)))/\L=(mS L1 [(11,⟨5,[paW p],true⟩),(12,⟨5,[paW q],true⟩),(13,⟨12,[.agg [ratL w0,ratL w1,ratL w2,ratL w3]],true⟩),(18,⟨4,[.agg [.list 6 ([s,t].map spL),.list 6 ([u,v].map spL),nI64 (cls.getD jj default).2.2.1,nI64 (cls.getD jj default).2.2.2]],true⟩),(19,⟨24,[.agg [spL s,spL t,spL u,spL v]],true⟩),(22,⟨12,[.agg [ratL v0,ratL v1,ratL v2,ratL v3]],true⟩)] [(24,iL 3),(23,bL o3),(22,.eptr 22 12 0 0),(19,.eptr 19 24 0 0),(18,.eptr 18 4 0 0),(17,nI64 jj),(16,bL true),(15,iL 0),(14,.list 4 (cls.map celV)),(13,.eptr 13 12 0 0),(12,.eptr 12 5 0 0),(11,.eptr 11 5 0 0),(4,iL x)])) ?_ ?_
  ·refine wl_if rfl ?_ ?_<;>intro y5 yX
   ·refine zg1 ?_;refine wl_regD 11 ah ?_;refine zg6 ?_;refine st_pure rfl (.bin rfl rfl (show binI .mul .i64 3 3=some (.int .i64 9) from rfl)) ?_;refine st_pure rfl (.bin rfl rfl (show binI .add .i64 1 9=some (.int .i64 10) from rfl)) ?_;refine st_pure rfl (.bin rfl rfl (quoX64 ae hx)) ?_;refine cp am2 (c_Within v (x.tdiv 10) 32 ae ⟨adG,ab5⟩ (quo_in ae hx)) ?_;refine zg4 ?_;refine wl_regD 12 ah ?_;refine zg2 ?_;refine op_if 137 rfl ?_ ?_<;>intro adz p7
    ·refine zg12 ?_;exact⟨(wiV v (x.tdiv 10)),true,_,⟨.inr rfl,fun e=>absurd e J,(by rw [show o2=true from by simpa using p7];rfl)⟩,aL⟩
    refine zg6 ?_;refine cp am2 (c_FSame w3 (wiV v (x.tdiv 10)) (by have:=wi_rl3 adG ab5 (x.tdiv 10);omega)) ?_;refine zg5 ?_;exact⟨(wiV v (x.tdiv 10)),(!decide (w3=(wiV v (x.tdiv 10)))),_,⟨.inr rfl,fun e=>absurd e J,(by rw [show o2=false from by simpa using p7];rfl)⟩,aL⟩
   refine zg2 ?_;exact⟨w3,o2,_,⟨.inl rfl,fun _=>rfl,(by rw [decide_eq_true (rfl:w3=w3)];simp)⟩,aL⟩
  rintro _ ⟨v3,o3,z8,⟨fj,qZ,xO⟩,rfl⟩;refine zg4 ?_;refine st_pure rfl (.bin rfl rfl (show binI .add .i64 3 1=some (.int .i64 4) from rfl)) ?_;refine zg3 ?_;refine qS ?_;refine zg6 ?_;obtain⟨ia0,ra0,xa0,na0⟩:=par_V hc.ps hG.i0 fH hG.o0 (has_sp.1 aeb) qR;obtain⟨ia1,ra1,xa1,na1⟩:=par_V hc.pt hG.i1 bG hG.o1 (has_sp.1 abl) kI;obtain⟨ia2,ra2,xa2,na2⟩:=par_V hc.pu hG.i2 ir hG.o2 (has_sp.1 abD) vZ;obtain⟨ia3,ra3,xa3,na3⟩:=par_V hc.pv hG.i3 tK hG.o3 (has_sp.1 aep) fj;have q7:=c_evT xE ia0 ia1 ra0 ra1 xa0;have rG:=c_evT yg ia2 ia3 ra2 ra3 xa2;have hPE:=c_FPtEq (peV p.U p.V p.r.flatten ((v0-p.a)/(p.b-p.a)) ((v1-p.c)/(p.d-p.c))) (peV q.U q.V q.r.flatten ((v2-q.a)/(q.b-q.a)) ((v3-q.c)/(q.d-q.c))) ((pe_bd xE.pf (shX_of xa0) (shX_of xa1)).le ae) ((pe_bd yg.pf (shX_of xa2) (shX_of xa3)).le ae);refine zg1 ?_;refine st_pure rfl (.loadE (b:=11) (sz:=5) (i:=0) (o:=0) (x:=(paW p)) (r:=(paW p)) (n:=5) (ag:=true) rfl rfl rfl rfl dT.cs (at_all dT.cs dT.ag) T29) ?_;refine zg4 ?_;refine st_callP rfl (.cons (.pure dT.pu) (.cons (.pure (ratE.pure _)) (.cons (.pure (ratE.pure _)) (.nil)))) q7 ?_;refine zg10 ?_;refine st_pure rfl (.loadE (b:=12) (sz:=5) (i:=0) (o:=0) (x:=(paW q)) (r:=(paW q)) (n:=5) (ag:=true) rfl rfl rfl rfl jo.cs (at_all jo.cs jo.ag) T29) ?_;refine zg4 ?_
  refine st_callP rfl (.cons (.pure jo.pu) (.cons (.pure (ratE.pure _)) (.cons (.pure (ratE.pure _)) (.nil)))) rG ?_;refine zg12 ?_;refine op_if 166 rfl ?_ ?_<;>intro ah3 aeY
  ·refine zg2 ?_;refine cp am2 (hPE) ?_;refine zg3 ?_;refine wl_if rfl ?_ ?_<;>intro ahI agx
   ·have fX:=once_no hc J hcP (com_of (show eqV _ _=true from by simpa using agx)) (hasL4 (has_sp.1 aeb) (has_sp.1 abl) (has_sp.1 abD) (has_sp.1 aep)) (hasL4 na0 na1 na2 na3) ew fR dk qZ;obtain⟨dE,eW,fy,nQ⟩:=fX;rw [decide_eq_true dE] at zw;rw [decide_eq_true eW,zw] at ho1;rw [decide_eq_true fy,ho1] at pF;rw [decide_eq_true nQ,pF] at xO;exact absurd (show o3=true from by simpa using aeY) (by rw [xO];decide)
   refine zg3 ?_;refine wL ?_;exact nx2 (jj+1) true ⟨J,by rw [wQ,w8,<-qT,yn,aa1]⟩
  refine zg10 ?_;refine wL ?_;exact nx2 (jj+1) true ⟨J,by rw [wQ,w8,<-qT,yn,aa1]⟩
 obtain rfl:jj=cls.length:=J;rw [List.take_length] at hIn;refine zg10 ?_;refine st_pure eE (.move _) ?_;refine st_pure rfl (.pickT rfl ((rfl))) ?_;refine zg1 ?_;refine op_if 176 rfl ?_ ?_<;>intro aiq ahx
 ·refine cp am0 (c_awake19) ?_;refine zg5 ?_;exact dS
 exfalso;have ev:=inJ_true hK hCo;rw [<-hIn] at ev;simp_all
end Go.Proofs.YtlipjipfpkbppaaGreat
end
