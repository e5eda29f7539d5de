/- Texts A5, A9, U9, U10, Q3, Q1, Q5, U12, Q6, U15, Q9, Q11, Q4, Q7, Q8, Q1c, Q12, Q13, Q14, Q15 of this proof, joined. -/
import Derived.Test.YthcadngkamjpdaaGreatQU7
set_option linter.unusedVariables false
set_option linter.unusedSimpArgs false
open And renaming intro->fF
open Bool renaming and_eq_true->mR,and_self->acb,not_eq_true->ad9
open Decidable renaming byContradiction->aAM
open Go.Proofs.Tryz renaming func166->ang,prog->ak,underlying110->aji,underlying123->aaI,underlying144->ajQ,underlying150->jv,underlying160->ox,underlying203->ad1,underlying218->acH,underlying245->yQ,underlying246->akF,underlying26->dY,underlying27->qb,underlying36->oA,underlying44->qd,underlying62->kj,underlying89->ahe,underlying97->adF
open Int renaming emod_lt_of_pos->adf,emod_nonneg->adB,le_of_lt->aqI,le_refl->acB
open List renaming drop_succ_cons->wW,drop_zero->ks,forall_mem_cons->agU,getD_cons_succ->aaD,getD_cons_zero->zy,getD_eq_getElem?_getD->bE,getElem?_eq_getElem->bY,getElem?_map->gZ,getElem_mem->qx,length_append->jS,length_cons->l8,length_drop->ni,length_map->eD,length_take->fQ,map_append->aac,map_cons->lI,map_map->afl,mem_append->oO,mem_append_left->asM,mem_append_right->axK,mem_cons->ff,mem_cons_self->apw,mem_map->ga,mem_of_mem_drop->xX,mem_of_mem_take->x5,mem_replicate->uc,mem_singleton->fP,not_mem_nil->iq,replicate->aV,take_of_length_le->cE,take_succ_cons->rq,take_zero->uZ
open Nat renaming add_assoc->oQ,beq_eq->aeQ,le_refl->bF,le_trans->bb,mul_le_mul_left->lr,pow_le_pow_right->oy,pow_pos->lC,zero_le->bS
open Option.some renaming injEq->fv
open Rat renaming add_zero->jC,div_def->qh,div_mul_cancel->lD,intCast_mul->abx,le_of_lt->mZ,le_refl->nI,mul_assoc->ady,mul_comm->zD,mul_div_cancel->aan,mul_inv_cancel->axG,mul_lt_mul_of_pos_right->awO,mul_nonneg->aa5,mul_one->vv,mul_pos->adr,mul_zero->aav,not_lt->aeY,one_mul->tu,zero_add->adX
section
set_option linter.unusedVariables false
set_option linter.unusedSimpArgs false
set_option maxHeartbeats 8000000
set_option maxRecDepth 100000
attribute [local irreducible] Go.Lg.opsL Go.Lg.cU Go.Lg.oq Go.Lg.qK
namespace Go.Proofs.YthcadngkamjpdaaGreat
open Go.Lg
section
variable {D W na:Nat} {lk:pq} {x:fR} {st:List fR} {m:Nat} {cl:List jc}
theorem adK:gV D (x :: st)=uq D x+gV D st:=by simp [gV]
theorem ama (hk:¬D<=x.2.1):gV D (oY x :: pF x :: st)<gV D (x :: st):=by
 have:=au3 (x:=x) (s:=sO (x.1.getD (fw x) default)) (s':=tM (x.1.getD (fw x) default)) (show x.2.1<D by omega)
 rw [adK,adK,adK]
 unfold oY pF
 omega
theorem aqb:∀ st:List fR,st.length<=gV D st
 | []=>bS _
 | x :: st=>by
   have h1:=aqb st
   have h2:=afp D x
   rw [adK,l8];omega
end
theorem aAq (x:fR) (st jk:List fR):(x :: st).reverse++jk=st.reverse++(x :: jk):=by simp
theorem aHe (x:fR) (st jk:List fR):(st.reverse.map kH++(kH x :: jk.map kH))[st.length]?=some (kH x):=by
 rw [List.getElem?_append_right aW];simp
theorem ayM (l m:List fR):(l++m).map kH=l.map kH++m.map kH:=aac
theorem azL (l m:List jc):(l++m).map iW=l.map iW++m.map iW:=aac
theorem aJz (st:List fR) (l:List LV):(st.reverse.map kH++l).take st.length=st.reverse.map kH:=by
 rw [List.take_append_of_le_length aW,cE aW]
theorem aAt {P:Program} {L:St} {blk' b0:bA} {bs:List bA} {l:List (Nat × bA)} {v:List LV} (hl:L.heap=hp l) (h0:hp l 0=some b0) (hb:blk'=⟨b0.sz,dX (rD [1]) b0.vals,b0.mt⟩) (xg:∀ c∈l.map (·.1),c≠0->c∈[1])
  (h1:hp l 1=some ⟨4,v,true⟩) (hv:aK v=true) (tw:bs=[⟨4,v,true⟩]):ak2 P [] L (.a9 []) blk' bs:=by
 have hdm:∀ (l:List (Nat × bA)) (c:Nat),hp l c≠none->c∈l.map (·.1):=fun l=>by
  induction l with
  | nil=>exact fun c h=>absurd rfl h
  | cons p t ih =>
   obtain⟨d,y⟩:=p
   intro c h
   by_cases e:c=d
   ·simp [e]
   ·have:Nat.beq c d=false:=by rw [<-ad9,aeQ];exact e
    simp only [hp,this,cond_false] at h
    simp only [lI,ff]
    exact .inr (ih c h)
 refine⟨[],[1],b0,by rw [hl];exact h0,hb,.nil,by simp,by simp,by simp,fun c hc hh=>xg c (hdm l c (by rwa [hl] at hh)) hc,fun k b hk=>?_,rfl⟩
 match k,hk with
 | 0,hk =>
  simp only [List.getElem?_cons_zero,fv] at hk
  subst hk
  exact⟨_,by rw [hl];exact h1,by rw [tw,qy _ _ hv];rfl⟩
 | k+1,hk=>simp at hk
end Go.Proofs.YthcadngkamjpdaaGreat
namespace Go.Lg
theorem az.aDr {L:St} (b:Nat) (bs:List Nat) (h0:bs.contains 0=false) {sz:Nat} {x y:LV} {mt:Bool} (hb:(L.ca bs).heap b=some ⟨sz,[x],mt⟩) (hi:da (L.ca bs).heap x y):az L ((L.ca bs).bU b (some ⟨sz,[y],mt⟩)):=by
 rintro n W X Z0 a w ⟨eh,bT,μ,Z,te,hr⟩
 obtain⟨Z',hc,hz⟩:=te.v7 (ux bs h0)
 refine⟨eh,bT,μ,Z',?_,fun s=>bu.mono hz (fun _ _ h=>h) (Frame.refl Z μ w) (hr s)⟩
 have hs:∀ c,((L.ca bs).bU b (some ⟨sz,[y],mt⟩)).heap c=if c=b then some ⟨sz,[y],mt⟩ else(L.ca bs).heap c:=fun c=>rfl
 refine⟨hc.cx,hc.lg,hc.jy,hc.lh,hc.inj,hc.own,hc.x0,hc.nV,hc.x1,fun c id blk g1 g2=>?_,fun c id blk g1 g2=>?_,fun c id g1=>?_⟩
 ·rw [hs] at g2
  split at g2
  ·rename_i e;subst e;cases g2;exact hc.ja c id ⟨sz,[x],mt⟩ g1 hb
  ·exact hc.ja c id blk g1 g2
 ·rw [hs] at g2
  split at g2
  ·rename_i e;subst e;cases g2;exact hc.ca c id ⟨sz,[x],mt⟩ g1 hb
  ·exact hc.ca c id blk g1 g2
 ·obtain⟨blk,k1,k2⟩:=hc.heap c id g1
  rw [hs]
  by_cases e:c=b
  ·subst e
   rw [if_pos rfl]
   rw [hb] at k1
   cases k1
   refine⟨_,rfl,?_⟩
   obtain⟨cs,T,part,rest,e1,e2,e3⟩:=k2
   refine⟨cs,T,part,rest,e1,e2,?_⟩
   simp only [a6] at e3 ⊢
   obtain⟨c1,c2,q1,q2,q3,q4⟩:=e3
   exact⟨c1,c2,q1,q2,da.sound (bD:=μ) hc hi q3,q4⟩
  ·rw [if_neg e];exact⟨blk,k1,k2⟩
end Go.Lg
namespace Go.Proofs.YthcadngkamjpdaaGreat
open Go.Lg
theorem yo {P:Program} {ρ:Operand->LV} {T E:TypeId} {x:Operand} {d sz:Nat} {ag:Bool} {z v:LV} (hT:P.underlying T=some (.slice E)) (hz:cF P E z) (hzc:z.av=sz) (uw:z.isAgg=ag) (hE:bK P E sz ag)
  (hx:ρ x=v) (hvc:v.av=sz) (r9:v.isAgg=ag) (hvp:v.pure=true) (hs:0<sz) (gv:sz<=1000):dA P ρ d (.buildSlice T 1 #[(0,x)]) (.ref d sz 0 1) ⟨sz,[v],true⟩:=by
 have:=dA.lit (P:=P) (ρ:=ρ) (d:=d) (T:=T) (n:=1) (ps:=#[(0,x)]) hT hz (by rw [uw];exact hE) hzc J J J (by
  intro p hp
  simp only [fP] at hp
  subst hp
  refine⟨by simp,?_,by rw [hx];exact LV.dT hvp,by rw [hx];exact LV.dG hvp⟩
  simp [lay,hx,hvc,r9,hzc,uw])
 simpa [jK,hx,aV] using this
theorem aAG {P:Program} {ρ:Operand->LV} {T E:TypeId} {x:Operand} {d sz:Nat} {ag:Bool} {z v:LV} (hT:P.underlying T=some (.slice E)) (hz:cF P E z) (hzc:z.av=sz) (uw:z.isAgg=ag) (hE:bK P E sz ag)
  (hx:ρ x=v) (hvc:v.av=sz) (r9:v.isAgg=ag) (h1:v≠.any) (h2:∀ l,v≠.a9 l) (hs:0<sz) (gv:sz<=1000):dA P ρ d (.buildSlice T 1 #[(0,x)]) (.ref d sz 0 1) ⟨sz,[v],true⟩:=by
 have:=dA.lit (P:=P) (ρ:=ρ) (d:=d) (T:=T) (n:=1) (ps:=#[(0,x)]) hT hz (by rw [uw];exact hE) hzc J J J (by
  intro p hp
  simp only [fP] at hp
  subst hp
  refine⟨by simp,?_,by rw [hx];exact h1,by rw [hx];exact h2⟩
  simp [lay,hx,hvc,r9,hzc,uw])
 simpa [jK,hx,aV] using this
def mf (q:ar):Q4:=⟨q.w*q.p.x,q.w*q.p.y,q.w*q.p.z,q.w⟩
theorem ajV {w x:Rat} (h:0<w):w*x/w=x:=by
 rw [qh,zD w x,ady,axG _ dz,vv]
theorem aB7 {q:ar} (h:0<q.w):(⟨⟨q.w*q.p.x/q.w,q.w*q.p.y/q.w,q.w*q.p.z/q.w⟩,q.w⟩:ar)=q:=by
 rw [ajV h,ajV h,ajV h]
theorem aI7 (d:Nat) (a b t:Rat):iR (aA d a b) t (aA d a b).length=(if a=t then d+1 else 0)+(if b=t then d+1 else 0):=by
 have h:=ajM (aV (d+1) a) (aV (d+1) b) t (d+1)
 rw [List.length_replicate] at h
 have e:(aA d a b).length=d+1+(d+1):=by rw [gW];omega
 rw [e]
 show iR (aV (d+1) a++_) t _=_
 rw [h,afr _ _ _ _ (bF _),afr _ _ _ _ (bF _)]
theorem ah7 {d:Nat} {a b:Rat} (h1:1<=d) (h6:d<=6) (cY:a<b) (hT:rl a<=64) (hT1:rl b<=64):yJ (aA d a b) d:=by
 have hl:=gW d a b
 have bj:a≠b:=by grind
 have e0:(aA d a b).getD 0 0=a:=by rw [im _ _ _ _ J,if_pos J]
 have e1:(aA d a b).getD ((aA d a b).length-1) 0=b:=by rw [hl,im _ _ _ _ J,if_neg J]
 have hm:∀ x∈aA d a b,x=a\/x=b:=fun x hx=>by
  rcases oO.1 hx with h | h
  ·exact .inl (uc.1 h).2
  ·exact .inr (uc.1 h).2
 refine⟨h1,h6,J,J,fun i hi=>?_,by rw [e0,e1];exact bj,fun t ht he=>?_,fun t ht g0 g1=>?_,fun x hx=>?_⟩
 ·rw [im _ _ _ _ J,im _ _ _ _ J]
  split<;>split
  ·exact nI
  ·grind
  ·omega
  ·exact nI
 ·rw [aI7]
  rcases hm t ht with rfl | rfl
  ·rw [if_pos rfl,if_neg (fun e=>bj e.symm)]
  ·rw [if_neg bj,if_pos rfl,Nat.zero_add]
 ·rw [e0] at g0;rw [e1] at g1
  rcases hm t ht with h | h
  ·exact absurd h g0
  ·exact absurd h g1
 ·rcases hm x hx with rfl | rfl<;>assumption
theorem aun {d:Nat} {a b:Rat}:∀ i,i+1<=d+1->dy (aA d a b) (i+1)=[a]
 | 0,_=>by rw [dy,if_pos (.inl rfl),yN];rfl
 | i+1,h=>by
  rw [adl J (by rw [im _ _ _ _ J,im _ _ _ _ J,if_pos J,if_pos J]),aun i J]
theorem asY {d:Nat} {a b:Rat} (cY:a<b):∀ i,i+1<=d+1->dy (aA d a b) (d+1+(i+1))=[a,b]
 | 0,_=>by
  rw [<-oQ,aon J (by rw [im _ _ _ _ J,im _ _ _ _ J,if_neg J,if_pos J];grind),Nat.add_zero,aun d J,im _ _ _ _ J,if_neg J];rfl
 | i+1,h=>by
  rw [<-oQ,adl J (by rw [im _ _ _ _ J,im _ _ _ _ J,if_neg J,if_neg J]),asY cY i J]
theorem aEu {d:Nat} {a b:Rat} (cY:a<b):dy (aA d a b) (aA d a b).length=[a,b]:=by
 have:=asY (d:=d) cY d (bF _)
 rwa [show d+1+(d+1)=(aA d a b).length by rw [gW];omega] at this
namespace awj
theorem aw {p q:Prop} (k:q) (e:p=q:=by simp only [e1,e2,e3,e4,p1,p2,p3,q1,q2,q3,l1,t0,t1,r1,r2,r3,r4,Nat.zero_add,Nat.reduceMul,Nat.reduceAdd,b1,b2,b3,b4,b5,b6,i1,i2,i3,i4,i5,i6,Nat.reduceBEq,jb,hl,List.length_map,List.set_cons_zero,List.set_cons_succ,Nat.reduceEqDiff,reduceIte,if_true,if_false,cB,dB,aG aX,aG bz,aG an,cA,cC,LV.kill,bH];exact rfl):p:=e.mpr k
end awj
open awj in
theorem aIL (d:Nat) (a b:Rat) (po:List ar) (R:Nat) (h:rT po d R) (fa:1<=R) (hR:R<=1000) (cY:a<b) (ha:rl a<=64) (hb:rl b<=64):ax ak 104 [.agg [ae d,.list 3 ((aA d a b).map aa),.list 12 (po.map bm)]] (bL true):=by
 have hl:=h.hl
 have hd:=h.hd
 have h6:=h.h6
 have jb:=gW d a b
 have fx:LV.pure (.agg [ae d,.list 3 ((aA d a b).map aa),.list 12 (po.map bm)])=true:=by simp [LV.pure,aK,aP an,aP bz]
 have hsq:LV.pure (.agg [ae d,.list 3 ((aA d a b).map aa),.list 12 ((po.map mf).map cy)])=true:=by simp [LV.pure,aK,aP an,aP dD,-afl]
 have hk:=ah7 hd h6 cY ha hb
 have hKp:ax ak 178 [.list 3 ((aA d a b).map aa),ae d] (ae (d+1)):=by
  have:=aed (aA d a b) d J J
  rwa [show (aA d a b).length-d-1=d+1 by omega] at this
 refine aR Tryz.func104 ?_
 refine bf ?_
 refine aY 18 al ?_
 refine aB ?_
 refine cp au (al7 (aA d a b) d hk) ?_
 refine aH ?_
 refine ah (aM (v:=true) rfl rfl ((rfl)) rfl) gr ?_
 refine ah (aM (v:=true) rfl rfl ((rfl)) rfl) dE ?_
 refine ah (aM (v:=true) rfl rfl ((rfl)) rfl) pM ?_
 refine ah (aM (v:=true) rfl rfl ((rfl)) rfl) gr ?_
 refine ah (aM (v:=true) rfl rfl ((rfl)) rfl) dE ?_
 refine ah (aM (v:=true) rfl rfl ((rfl)) rfl) gr ?_
 refine ah (aM (v:=true) rfl rfl ((rfl)) rfl) dE ?_
 refine bM (aM (v:=true) rfl rfl ((rfl)) rfl) (.cons cG (.cons cG .nil)) (hKp) ?_
 refine ah (aM (v:=true) rfl rfl ((rfl)) rfl) (.bin rfl rfl rfl) ?_
 refine ah rfl (.gU rfl ((rfl))) ?_
 refine aB ?_
 exact dO (x:=bL true) (by refine Eq.trans (b:=LV.v (Value.bool (((d+1:Nat):Int)==((d+1:Nat):Int)))) rfl ?_;rw [beq_self_eq_true]) (.pure rfl)
namespace aug
theorem aw {p q:Prop} (k:q) (e:p=q:=by simp only [e1,e2,e3,e4,p1,p2,p3,q1,q2,q3,l1,t0,t1,r1,r2,r3,r4,Nat.zero_add,Nat.reduceMul,Nat.reduceAdd,b1,b2,b3,b4,b5,b6,i1,i2,i3,i4,i5,i6,Nat.reduceBEq,eW,iH,List.length_map,fo,eO,dW,List.length_cons,List.length_nil,List.nil_append,List.map_nil,List.take_nil,List.append_nil,List.set_cons_zero,List.set_cons_succ,Nat.reduceEqDiff,reduceIte,if_true,if_false,cB,dB,aG aX,aG bz,aG an,cA,cC,LV.kill,bH,ur,aG dD];exact rfl):p:=e.mpr k
end aug
open aug in
theorem aJY (d:Nat) (a b:Rat) (po:List ar) (R:Nat) (h:rT po d R) (fa:1<=R) (hR:R<=1000) (cY:a<b) (ha:rl a<=64) (hb:rl b<=64):ax ak 105 [.agg [ae d,.list 3 ((aA d a b).map aa),.list 12 (po.map bm)]] (.agg [ae d,.list 3 ((aA d a b).map aa),.list 12 ((po.map mf).map cy)]):=by
 have hl:=h.hl
 have hd:=h.hd
 have h6:=h.h6
 have jb:=gW d a b
 have fx:LV.pure (.agg [ae d,.list 3 ((aA d a b).map aa),.list 12 (po.map bm)])=true:=by simp [LV.pure,aK,aP an,aP bz]
 have hsq:LV.pure (.agg [ae d,.list 3 ((aA d a b).map aa),.list 12 ((po.map mf).map cy)])=true:=by simp [LV.pure,aK,aP an,aP dD,-afl]
 have hk:=ah7 hd h6 cY ha hb
 refine aR Tryz.func105 (ht:=(fun g=>LV.cQ g _ (by simp [LV.pure,aK,aP an,aP dD,-afl]))) ?_
 have eW:True:=trivial
 have iH:True:=trivial
 refine ak9 ?_
 refine jm ((az.cell 3 rfl (fun Z μ w cs h=>vU 23 12 _ _ Z μ w cs h)).trans (az.ov _ 23 12 rfl)) ?_
 refine dI (fun(j:Nat) L=>(((((((St.mk L.slot (hp [(1,⟨3,[.agg [ae d,.list 3 ((aA d a b).map aa),.list 12 (po.map bm)]],true⟩),(2,⟨3,[.agg [.v (.int .i64 0),.v (.slice none 0 0),.v (.slice none 0 0)]],true⟩),(3,⟨3,[.agg [ae d,.list 3 ((aA d a b).map aa),.ref 23 12 0 j]],true⟩),(23,⟨12,((po.map mf).take j).map cy,true⟩)])).put (some 1) (.aF 1 3 0 0)).put (some 2) (.aF 2 3 0 0)).put (some 3) (.aF 3 3 0 0)).put (some 12) (.list 12 (po.map bm))).put (some 13) (ae po.length)).put (some 14) (ae j))) (fun j=>j<=po.length) (fun j=>po.length-j) 0 (bS _) ?_
 rintro j L1 hj
 refine ay ?_
 refine aL rfl ?_ ?_<;>intro oG mV
 ·have dL:j<po.length:=by omega
  have hO:ax ak 179 [bm (po.getD j default)] (cy (mf (po.getD j default))):=ajv (po.getD j default) R J (h.ok _ (tG dL))
  have iH:(po.map mf).take j++[mf (po.getD j default)]=(po.map mf).take (j+1):=abZ mf po dL
  have eW:(((po.map mf).take j).map cy).take j=((po.map mf).take j).map cy:=cE bq
  refine bw ?_
  refine aY 5 al ?_
  refine aQ ?_
  refine cp aO (hO) ?_
  refine ao ?_
  refine bO rfl (.fV (d:=23) (news:=[cy (mf (po.getD j default))]) rfl rfl rfl rfl bq (.inl rfl) ai jv jv abl (by first | exact kF | (rw [dD.isAgg];exact kF)) cs afV (.inl ⟨22,0,_,rfl,by decide,rfl,rfl,by simp,rfl,by simp [aK,dD.pure]⟩) bq bq ai) ?_
  refine a7 ?_
  refine bR ((az.kill _ 5).trans (az.kill _ 22)) ?_
  refine ah rfl cu ?_
  refine aQ ?_
  exact qp
 ·obtain rfl:j=po.length:=by omega
  have hE:(po.map mf).take po.length=(po.map mf):=cE aW
  simp only [hE]
  refine bw ?_
  exact fi [23] rfl rfl rfl cs (cr cs rfl) qz (.agg (.cons (.pure rfl) (.cons (.pure (aP an _)) (.cons (dH dD rfl rfl aW) .nil))))
namespace ao2
theorem aw {p q:Prop} (k:q) (e:p=q:=by simp only [e1,e2,e3,e4,p1,p2,p3,q1,q2,q3,l1,t0,t1,r1,r2,r3,r4,Nat.zero_add,Nat.reduceMul,Nat.reduceAdd,b1,b2,b3,b4,b5,b6,i1,i2,i3,i4,i5,i6,Nat.reduceBEq,eW,iH,egq,List.length_map,fo,eO,dW,List.length_cons,List.length_nil,List.nil_append,List.map_nil,List.take_nil,List.append_nil,List.set_cons_zero,List.set_cons_succ,Nat.reduceEqDiff,reduceIte,if_true,if_false,cB,dB,aG aX,aG bz,aG an,cA,cC,LV.kill,bH,ur,aG dD];exact rfl):p:=e.mpr k
end ao2
open ao2 in
theorem aFL (d:Nat) (a b:Rat) (po:List ar) (R:Nat) (h:rT po d R) (fa:1<=R) (hR:R<=1000) (cY:a<b) (ha:rl a<=64) (hb:rl b<=64):ax ak 106 [.agg [ae d,.list 3 ((aA d a b).map aa),.list 12 ((po.map mf).map cy)]] (.agg [ae d,.list 3 ((aA d a b).map aa),.list 12 (po.map bm)]):=by
 have hl:=h.hl
 have hd:=h.hd
 have h6:=h.h6
 have jb:=gW d a b
 have fx:LV.pure (.agg [ae d,.list 3 ((aA d a b).map aa),.list 12 (po.map bm)])=true:=by simp [LV.pure,aK,aP an,aP bz]
 have hsq:LV.pure (.agg [ae d,.list 3 ((aA d a b).map aa),.list 12 ((po.map mf).map cy)])=true:=by simp [LV.pure,aK,aP an,aP dD,-afl]
 have hk:=ah7 hd h6 cY ha hb
 have hCo:=aap (aA d a b) J (fun x hx=>bb (mw ha hb x hx) ai)
 refine aR Tryz.func106 (ht:=(fun g=>LV.cQ g _ agb)) ?_
 have eW:True:=trivial
 have iH:True:=trivial
 have egq:True:=trivial
 refine bf ?_
 refine aY 7 al ?_
 refine aB ?_
 refine cp aO (hCo) ?_
 refine eQ ?_
 refine jm ((az.cell 3 rfl (fun Z μ w cs h=>vU 24 12 _ _ Z μ w cs h)).trans (az.ov _ 24 12 rfl)) ?_
 refine dI (fun(j:Nat) L=>(((((((St.mk L.slot (hp [(1,⟨3,[.agg [ae d,.list 3 ((aA d a b).map aa),.list 12 ((po.map mf).map cy)]],true⟩),(2,⟨3,[.agg [.v (.int .i64 0),.v (.slice none 0 0),.v (.slice none 0 0)]],true⟩),(3,⟨3,[.agg [ae d,.list 3 ((aA d a b).map aa),.ref 24 12 0 j]],true⟩),(24,⟨12,(po.take j).map bm,true⟩)])).put (some 1) (.aF 1 3 0 0)).put (some 2) (.aF 2 3 0 0)).put (some 3) (.aF 3 3 0 0)).put (some 13) (.list 12 ((po.map mf).map cy))).put (some 14) (ae po.length)).put (some 15) (ae j))) (fun j=>j<=po.length) (fun j=>po.length-j) 0 (bS _) ?_
 rintro j L1 hj
 refine ay ?_
 refine aL rfl ?_ ?_<;>intro vT sa
 ·have dL:j<po.length:=by omega
  have hq:=h.ok _ (tG dL)
  obtain⟨⟨q5,q6,q7⟩,q8,q9⟩:=hq
  have n5:=cM (po.getD j default).w (po.getD j default).p.x
  have n6:=cM (po.getD j default).w (po.getD j default).p.y
  have n7:=cM (po.getD j default).w (po.getD j default).p.z
  have hFP:ax ak 112 [cy (mf (po.getD j default))] (bm (po.getD j default)):=by
   have:=ae4 ((po.getD j default).w*(po.getD j default).p.x) ((po.getD j default).w*(po.getD j default).p.y) ((po.getD j default).w*(po.getD j default).p.z) (po.getD j default).w 1000000 ai J J J J q9
   rw [aB7 q9] at this
   exact this
  have egq:(po.map mf).getD j default=mf (po.getD j default):=by rw [bE,gZ,bY dL,bE,bY dL];rfl
  have iH:po.take j++[(po.getD j default)]=po.take (j+1):=by rw [List.take_add_one,bY dL,bE,bY dL];rfl
  have eW:((po.take j).map bm).take j=(po.take j).map bm:=cE bq
  refine bw ?_
  refine aY 5 al ?_
  refine aQ ?_
  refine bM rfl (.cons (.pure (dD.pure _)) .nil) hFP ?_
  refine ao ?_
  refine bO rfl (.fV (d:=24) (news:=[bm (po.getD j default)]) rfl rfl rfl rfl bq (.inl rfl) ai kj kj pz (by first | exact mO | (rw [bz.isAgg];exact mO)) cs abO (.inl ⟨23,0,_,rfl,by decide,rfl,rfl,by simp,rfl,by simp [aK,bz.pure]⟩) bq bq ai) ?_
  refine a7 ?_
  refine bR ((az.kill _ 5).trans (az.kill _ 23)) ?_
  refine ah rfl cu ?_
  refine aQ ?_
  exact qp
 ·obtain rfl:j=po.length:=by omega
  have hE:po.take po.length=po:=cE (bF _)
  simp only [hE]
  refine bw ?_
  exact fi [24] rfl rfl rfl cs (cr cs rfl) ob (.agg (.cons (.pure rfl) (.cons (.pure (aP an _)) (.cons (dH bz rfl rfl rfl) .nil))))
namespace awi
theorem aw {p q:Prop} (k:q) (e:p=q:=by simp only [e1,e2,e3,e4,p1,p2,p3,q1,q2,q3,l1,t0,t1,r1,r2,r3,r4,Nat.zero_add,Nat.reduceMul,Nat.reduceAdd,b1,b2,b3,b4,b5,b6,i1,i2,i3,i4,i5,i6,Nat.reduceBEq,p9,agz,hda,List.drop_succ_cons,List.drop_zero,List.getD_cons_zero,List.getD_cons_succ,List.length_map,fo,eO,dW,List.length_cons,List.length_nil,List.nil_append,List.map_nil,List.take_nil,List.append_nil,List.set_cons_zero,List.set_cons_succ,Nat.reduceEqDiff,reduceIte,if_true,if_false,cB,dB,aG aX,aG bz,aG an,cA,cC,LV.kill,bH,ur,aG dD];exact rfl):p:=e.mpr k
end awi
open awi in
theorem aD1 (d:Nat) (a b:Rat) (po:List ar) (R:Nat) (h:rT po d R) (fa:1<=R) (hR:R<=1000) (cY:a<b) (ha:rl a<=64) (hb:rl b<=64) (hCu:ax ak 83 [.agg [ae d,.list 3 ((aA d a b).map aa),.list 12 ((po.map mf).map cy)],aa a,aa b] (.agg [ae d,.list 3 ((aA d a b).map aa),.list 12 ((po.map mf).map cy)])):ax ak 51 [.agg [ae d,.list 3 ((aA d a b).map aa),.list 12 (po.map bm)]] (.list 3 [.agg [ae d,.list 3 ((aA d a b).map aa),.list 12 (po.map bm)]]):=by
 have hl:=h.hl
 have hd:=h.hd
 have h6:=h.h6
 have jb:=gW d a b
 have fx:LV.pure (.agg [ae d,.list 3 ((aA d a b).map aa),.list 12 (po.map bm)])=true:=by simp [LV.pure,aK,aP an,aP bz]
 have hsq:LV.pure (.agg [ae d,.list 3 ((aA d a b).map aa),.list 12 ((po.map mf).map cy)])=true:=by simp [LV.pure,aK,aP an,aP dD,-afl]
 have hk:=ah7 hd h6 cY ha hb
 have qw:aK [.agg [ae d,.list 3 ((aA d a b).map aa),.list 12 (po.map bm)]]=true:=by simp [aK,LV.pure,aP an,aP bz]
 have ns:=aIL d a b po R h fa hR cY ha hb
 have hOf:=aJY d a b po R h fa hR cY ha hb
 have hBk:=aFL d a b po R h fa hR cY ha hb
 have hda:dy (aA d a b) (aA d a b).length=[a,b]:=aEu cY
 have hDa:=aii (aA d a b) J J (fun x hx=>bb (mw ha hb x hx) ai)
 refine aR Tryz.func51 (ht:=(fun g=>LV.cQ g _ agb)) ?_
 refine bh ?_
 refine cp aO (ns) ?_
 refine aQ ?_
 refine dp (b:=_) rfl (rfl) ?_
 refine bh ?_
 refine cp aO (hOf) ?_
 refine bg ?_
 refine cp aO (hDa) ?_
 refine bf ?_
 refine ah rfl (.abJ (a:=_) an rfl dY dC rfl om) ?_
 refine a7 ?_
 refine bc ?_
 refine ay ?_
 refine bI (b:=_) rfl (rfl) ?_
 refine df ?_
 refine aY 10 al ?_
 refine bf ?_
 refine cp gM (hCu) ?_
 refine cp aO (hBk) ?_
 refine aw ?_
 refine dF rfl rfl (yo (z:=.agg [.v (.int .i64 0),.v (.slice none 0 0),.v (.slice none 0 0)]) (v:=.agg [ae d,.list 3 ((aA d a b).map aa),.list 12 (po.map bm)]) aji Z64 rfl rfl ob rfl rfl rfl fx ai ai) ?_
 refine bO rfl (.xG (d:=34) (sz:=3) (news:=[.agg [ae d,.list 3 ((aA d a b).map aa),.list 12 (po.map bm)]]) (z:=.agg [.v (.int .i64 0),.v (.slice none 0 0),.v (.slice none 0 0)]) rfl rfl aji aji Z64 ob rfl B64 (.inl ⟨33,0,_,rfl,rfl,rfl,by simp,rfl,qw⟩) aW aW aW ai) ?_
 refine bB ?_
 refine bc ?_
 refine ay ?_
 refine dp (b:=_) rfl (rfl) ?_
 refine bw ?_
 exact lW [34] rfl rfl (abV rfl rfl qw aW)
abbrev CuT:=Nat × List Rat × List ar
def cuL (c:CuT):LV:=.agg [ae c.1,.list 3 (c.2.1.map aa),.list 12 (c.2.2.map bm)]
section
attribute [local irreducible] cuL
end
open aoc in
theorem aqQ (l:List (Rat × Rat)) (wd:Rat) (hl:l.length<=1000) (hb:∀ s∈l,dg 1000000 s) (hwd:rl wd<=1000000):ax ak 78 [.list 6 (l.map aD),aa wd] (bL (aaz l wd)):=by
 refine aR Tryz.func78 ?_
 refine eQ ?_
 refine dI (fun(i:Nat) L=>(((((St.mk L.slot (hp [(3,⟨3,[aa wd],true⟩)])).put (some 3) (.aF 3 3 0 0)).put (some 7) (.list 6 (l.map aD))).put (some 8) (ae l.length)).put (some 9) (ae i))) (fun i=>i<=l.length/\∀ j,j<i->¬wd<(l.getD j default).2-(l.getD j default).1) (fun i=>l.length-i) 0 ⟨bS _,fun j h=>absurd h (Nat.not_lt_zero _)⟩ ?_
 rintro i L1 ⟨hi,my⟩
 refine ay ?_
 refine aL rfl ?_ ?_<;>intro pA sC
 ·have dq:i<l.length:=by omega
  obtain⟨il,zn⟩:=hb _ (ajl dq)
  have hw:=fD (l.getD i default).2 (l.getD i default).1
  refine dk ?_
  refine aY 5 al ?_
  refine ao ?_
  refine cp aO (abF (l.getD i default) J) ?_
  refine ao ?_
  refine cp au (mG ((l.getD i default).2-(l.getD i default).1) wd J) ?_
  refine aQ ?_
  refine aL rfl ?_ ?_<;>intro acD h17
  ·have hR:aaz l wd=true:=by
    unfold aaz
    rw [List.any_eq_true]
    exact⟨_,ajl dq,decide_eq_true (sv.1 h17)⟩
   refine bC ?_
   rw [hR]
   exact jL
  ·have aCX:∀ j,j<i+1->¬wd<(l.getD j default).2-(l.getD j default).1:=fun j hj=>by
    rcases Nat.lt_succ_iff_lt_or_eq.1 hj with g | rfl
    ·exact my j g
    ·exact fun e=>by have:=sv.2 e;omega
   refine aQ ?_
   refine bR (az.kill _ 6) ?_
   refine ah rfl cu ?_
   refine aQ ?_
   exact lU (i+1) ⟨J,aCX⟩
 ·obtain rfl:l.length=i:=by omega
  have hR:aaz l wd=false:=by
   unfold aaz
   rw [List.any_eq_false]
   intro s hs
   obtain⟨j,hj,rfl⟩:=List.getElem_of_mem hs
   have:=my j hj
   rw [bE,bY hj] at this
   simpa using this
  refine bC ?_
  rw [hR]
  exact jL
section
variable {D W na:Nat} {wd:Rat} {lk:pq} {x:fR} {st:List fR} {m:Nat} {cl:List jc}
theorem aAX (h:W<=m):nq D W na wd lk (x :: st,m,cl)=(st,m,cl++[uf na x (false,0,0)]):=by rw [nq,if_pos h]
theorem aBE (h:¬W<=m) (hd:(lk (x.1.take na) (x.1.drop na)).1=true):nq D W na wd lk (x :: st,m,cl)=(st,m+1,cl):=by rw [nq,if_neg h,if_pos hd]
theorem abM (h:¬W<=m) (hd:(lk (x.1.take na) (x.1.drop na)).1=false) (hk:ou D wd x (lk (x.1.take na) (x.1.drop na))=true) :
  nq D W na wd lk (x :: st,m,cl)=(st,m+1,cl++[uf na x (lk (x.1.take na) (x.1.drop na))]):=by
 rw [nq,if_neg h,if_neg (by rw [hd];decide),if_pos hk]
theorem alh (h:¬W<=m) (hd:(lk (x.1.take na) (x.1.drop na)).1=false) (hk:ou D wd x (lk (x.1.take na) (x.1.drop na))=false) :
  nq D W na wd lk (x :: st,m,cl)=(oY x :: pF x :: st,m+1,cl):=by
 rw [nq,if_neg h,if_neg (by rw [hd];decide),if_neg (by rw [hk];decide)]
theorem ayT {v:Bool × Nat × Nat} (hk:k9 v=3\/k9 v=4) (hw:di wd=0):ou D wd x v=true:=by
 unfold ou;rw [decide_eq_true hk,decide_eq_true (akN hw)];rfl
theorem ayC {v:Bool × Nat × Nat} (hk:k9 v=3\/k9 v=4) (hw:aaz x.1 wd=false):ou D wd x v=true:=by
 unfold ou;rw [decide_eq_true hk,hw];simp
theorem aJu {v:Bool × Nat × Nat} (hk:D<=x.2.1):ou D wd x v=true:=by
 unfold ou;rw [decide_eq_true hk,Bool.or_true]
theorem aj9 {v:Bool × Nat × Nat} (hk:¬(k9 v=3\/k9 v=4)) (hd:¬D<=x.2.1):ou D wd x v=false:=by
 unfold ou;rw [decide_eq_false hk,decide_eq_false hd];rfl
theorem akT {v:Bool × Nat × Nat} (h0:¬di wd=0) (hw:aaz x.1 wd=true) (hd:¬D<=x.2.1):ou D wd x v=false:=by
 unfold ou;rw [decide_eq_false (show ¬wd=0 from fun e=>h0 (by rw [e];rfl)),hw,decide_eq_false hd];simp
end
namespace axZ
theorem aw {p q:Prop} (k:q) (e:p=q:=by simp only [e1,e2,e3,e4,p1,p2,p3,q1,q2,q3,l1,t0,t1,r1,r2,r3,r4,Nat.zero_add,Nat.reduceMul,Nat.reduceAdd,b1,b2,b3,b4,b5,b6,i1,i2,i3,i4,i5,i6,Nat.reduceBEq,ah8,azL,htz,List.drop_zero,ayM,aJz,List.map_cons,List.reverse_cons,List.reverse_nil,List.append_assoc,List.singleton_append,iW,uf,aat,auJ,ekv,ekK,eW,edk,esc,pB,atV,htA,hrp,kH,vdL,zw,fy0,fyc,aG bl,aG lQ,aG adT,aG ajn,List.length_map,List.length_append,List.length_replicate,hAB,fo,eO,dW,List.length_cons,List.length_nil,List.nil_append,List.map_nil,List.take_nil,List.append_nil,List.set_cons_zero,List.set_cons_succ,Nat.reduceEqDiff,reduceIte,if_true,if_false,cB,dB,aG aX,aG bz,aG an,cA,cC,LV.kill,bH];exact rfl):p:=e.mpr k
end axZ
open axZ in
theorem ayz (f na n D W:Nat) (cap:List LV) (lk:pq) (I:fR->Prop) (hL:ak0 ak f cap D na n lk I) (fx:aK cap=true) (jB:∀ x∈cap,x.av=1/\x.isAgg=false) (A B:List Sp) (hna:A.length=na) (hA0:0<A.length) (hB0:0<B.length) (hn:A.length+B.length=n) (hn9:n<=10) (hI0:I (A++B,0,aV n 0)) (wd:Rat) (hwd:rl wd<=100) (n0:Nat) (cz:List jc) (hD9:D<=24) (hW9:W<=4096) (iy:n0<=4096) (aLf:cz.length<=100000000):aam ak 37 ⟨7,[.agg [.agg [ae D,ae W,aa wd],.ref 1 4 0 cz.length,ae n0]],true⟩ ⟨4,cz.map iW,true⟩ [.aF 0 7 0 0,.list 6 (A.map aD),.list 6 (B.map aD),.bQ f cap] (.a9 []) ⟨7,[.agg [.agg [ae D,ae W,aa wd],.ref 1 4 0 (tH D W na wd lk ([(A++B,0,aV n 0)],n0,cz)).2.2.length,ae (tH D W na wd lk ([(A++B,0,aV n 0)],n0,cz)).2.1]],true⟩ [⟨4,(tH D W na wd lk ([(A++B,0,aV n 0)],n0,cz)).2.2.map iW,true⟩]:=by
 have aiu:=hL.sp _ hI0
 have hsA:∀ s∈A,dg 1000000 s/\s.1<=s.2:=fun s hs=>⟨(aiu s (asM _ hs)).1.le ai,(aiu s (asM _ hs)).2⟩
 have hsB:∀ s∈B,dg 1000000 s/\s.1<=s.2:=fun s hs=>⟨(aiu s (axK _ hs)).1.le ai,(aiu s (axK _ hs)).2⟩
 have hfA:=asA A hA0 J hsA
 have hPB:=akh B hB0 J hsB
 have hpA:=cd bl 6 A
 have hpB:=cd bl 6 B
 have aCC:=cd bl 6 (A++B)
 have zw:(A++B).length=n:=by rw [jS];exact hn
 have htA:(A.map aD).take A.length=A.map aD:=cE aW
 have hAB:A.map aD++B.map aD=(A++B).map aD:=aac.symm
 have hrp:aV n (eP 0)=(aV n (0:Int)).map eP:=by rw [List.map_replicate]
 have hpz:aK ((aV n (0:Int)).map eP)=true:=aP lQ _
 have hSg:=yS wd J
 have htz:((aV n (0:Int)).map eP).take n=(aV n (0:Int)).map eP:=cE aW
 have aEx:LV.pure (.bQ f cap)=true:=by simpa [LV.pure] using fx
 have hE0:=afn D W na wd lk ([(A++B,0,aV n 0)],n0,cz)
 have aKf:gV D [(A++B,0,aV n 0)]<=100000000:=by
  have hpw:2 ^ (D-0)<=2 ^ 24:=oy ai J
  rw [adK]
  show 2*2 ^ (D-0)-1+0<=_
  omega
 refine fnC Tryz.func37 ?_
 have aat:True:=trivial
 have auJ:True:=trivial
 have ekv:True:=trivial
 have ekK:True:=trivial
 have eW:True:=trivial
 have edk:True:=trivial
 have esc:True:=trivial
 have pB:True:=trivial
 have atV:True:=trivial
 refine aQ ?_
 refine abB [] rfl rfl (.cons (.pure hpA) .nil) hfA (aP bl _) rfl ?_
 refine ao ?_
 refine cp aO (hPB) ?_
 refine bO rfl (.fV (d:=20) (news:=B.map aD) rfl rfl rfl rfl aW (.inr rfl) ai qd qd aaq avZ cs B48 (.inr (.inl rfl)) bq bq ai) ?_
 refine aB ?_
 refine bR ((az.hand (t:=8) (b:=20) (l:=A++B) bl rfl rfl (by rw [jS])).trans (az.refl _)) ?_
 try refine aw ?_
 refine aQ ?_
 try refine aw ?_
 refine dF rfl rfl (.aoy (n:=n) (m:=n) lQ Tryz.underlying22 (show cF _ _ (eP 0) from Z3) T3 B3 rfl rfl J J J) ?_
 refine ao ?_
 try refine aw ?_
 refine dF rfl rfl (aAG (z:=kH ([],0,[])) (v:=.agg [.list 6 ((A++B).map aD),iL 0,.ref 24 1 0 n]) ajQ anW rfl rfl xk rfl rfl rfl aW aW ai ai) ?_
 refine aB ?_
 refine jm (((az.aDr 26 [24] rfl rfl (.agg (.cons (.pure aCC) (.cons (.pure rfl) (.cons (abV rfl rfl hpz aW) .nil)))))).trans (az.kill _ 24)) ?_
 refine lp4 (fun(st jk:List fR) (m:Nat) (cw:List jc) L=>(((((St.mk L.slot (hp [(0,⟨7,[.agg [.agg [ae D,ae W,aa wd],.ref 1 4 0 cw.length,ae m]],true⟩),(1,⟨4,cw.map iW,true⟩),(26,⟨3,(st.reverse++jk).map kH,true⟩)])).put (some 0) (.aF 0 7 0 0)).put (some 1) (.list 6 (A.map aD))).put (some 3) (.bQ f cap)).put (some 9) (.ref 26 3 0 st.length))) (fun st jk m cw=>aa1 D W na wd lk (st,m,cw) (tH D W na wd lk ([(A++B,0,aV n 0)],n0,cz))/\(∀ x∈st,I x)/\m<=4096/\cw.length+gV D st<=200000000) (fun st jk m cw=>gV D st) ([(A++B,0,aV n 0)]) ([]) n0 cz ⟨hE0,fun y hy=>by rw [fP.1 hy];exact hI0,iy,J⟩ ?_
 rintro st jk m cw L1 ⟨hE,hI,hm9,hc9⟩
 refine bg ?_
 refine aL rfl ?_ ?_<;>intro aa9 h29
 ·obtain⟨x,st,rfl⟩:∃ x s,st=x :: s:=by
   cases st with
   | nil=>simp at h29
   | cons x s=>exact⟨x,s,rfl⟩
  have esc:=aAq x st jk
  have hln:(x :: st).length=st.length+1:=rfl
  have oD:=hI x aW
  have pE:∀ y∈st,I y:=fun y hy=>hI y (by simp [hy])
  have hlk:=hL.look x oD
  have hlx:=(hL.len x oD).1
  have bZ:=(hL.len x oD).2
  have hdx:=hL.dep x oD
  have o5:=hL.sp x oD
  have hkd:=hL.kd x oD
  have hmw:=afp D x
  have hmc:=adK (D:=D) (x:=x) (st:=st)
  have hml:st.length+1<=gV D (x :: st):=aqb (D:=D) (x :: st)
  have u9:=hE.step
  have aat:x.1.take A.length=x.1.take na:=by rw [hna]
  have auJ:x.1.drop A.length=x.1.drop na:=by rw [hna]
  have eW:(x.1.map aD).take A.length=(x.1.take na).map aD:=by rw [hna,List.map_take]
  have edk:(x.1.map aD).drop A.length=(x.1.drop na).map aD:=by rw [hna,List.map_drop]
  have hPt:=akh (x.1.take na) (by rw [fQ];omega) (by rw [fQ];omega) (fun s hs=>⟨(o5 s (x5 hs)).1.le ai,(o5 s (x5 hs)).2⟩)
  have hPd:=akh (x.1.drop na) (by rw [ni];omega) (by rw [ni];omega) (fun s hs=>⟨(o5 s (xX hs)).1.le ai,(o5 s (xX hs)).2⟩)
  have aqL:LV.pure (.agg [.list 6 ((x.1.take na).map aD),.list 6 ((x.1.drop na).map aD),ae 1,ae 0])=true:=an9 (x.1.take na,x.1.drop na,1,0)
  have aay:LV.pure (.agg [.list 6 ((x.1.take na).map aD),.list 6 ((x.1.drop na).map aD),ae (k9 (lk (x.1.take na) (x.1.drop na))),ae (kV (lk (x.1.take na) (x.1.drop na)))])=true:=an9 (x.1.take na,x.1.drop na,k9 (lk (x.1.take na) (x.1.drop na)),kV (lk (x.1.take na) (x.1.drop na)))
  have aDf:aK [.agg [.list 6 ((x.1.take na).map aD),.list 6 ((x.1.drop na).map aD),ae 1,ae 0]]=true:=by simp only [aK,aqL,acb]
  have aDY:aK [.agg [.list 6 ((x.1.take na).map aD),.list 6 ((x.1.drop na).map aD),ae (k9 (lk (x.1.take na) (x.1.drop na))),ae (kV (lk (x.1.take na) (x.1.drop na)))]]=true:=by simp only [aK,aay,acb]
  have hpt:=cd bl 6 (x.1.take na)
  have hpd:=cd bl 6 (x.1.drop na)
  have atV:(cw.map iW).take cw.length=cw.map iW:=cE aW
  refine bg ?_
  refine ah rfl nh ?_
  try refine aw ?_
  refine ah rfl (.abp rfl ajQ xk rfl xE xE) ?_
  try refine aw ?_
  refine ah rfl (.dU (b:=26) (sz:=3) (i:=st.length) (o:=0) (x:=kH x) (r:=kH x) (n:=3) (ag:=true) rfl rfl rfl (aHe x st jk) (adT.av _) (cr (adT.av _) rfl) xk) ?_
  refine bB ?_
  refine ah rfl nh ?_
  refine ah rfl (.ahZ rfl ajQ xk rfl om om) ?_
  refine aB ?_
  refine aY 14 al ?_
  refine aB ?_
  try refine aw ?_
  refine ah rfl (by first | exact .arv (h:=A.length) bl rfl qd jM rfl om | exact .ahZ rfl qd jM rfl om om) ?_
  try refine aw ?_
  refine cp aO (hPt) ?_
  refine aB ?_
  try refine aw ?_
  refine ah rfl (.abJ (a:=A.length) bl rfl qd jM rfl om) ?_
  try refine aw ?_
  refine cp aO (hPd) ?_
  refine bf ?_
  refine aY 10 al ?_
  refine bw ?_
  refine aL rfl ?_ ?_<;>intro an4 gv
  ·have uH:W<=m:=by omega
   refine ao ?_
   refine eZ 7 [0] al ?_
   refine ay ?_
   try refine aw ?_
   refine dF rfl rfl (yo (z:=iW ([],[],0,0)) (v:=.agg [.list 6 ((x.1.take na).map aD),.list 6 ((x.1.drop na).map aD),ae 1,ae 0]) oA xF rfl rfl pR rfl rfl rfl aqL ai ai) ?_
   refine bO rfl (.fV (d:=1) (news:=[.agg [.list 6 ((x.1.take na).map aD),.list 6 ((x.1.drop na).map aD),ae 1,ae 0]]) rfl rfl rfl rfl aW (.inl rfl) ai oA oA xF pR rfl B46 (.inl ⟨70,0,_,rfl,by decide,rfl,rfl,by simp,rfl,aDf⟩) bq bq ai) ?_
   try refine aw ?_
   refine aH ?_
   try refine aw ?_
   refine bf ?_
   exact sK st (x :: jk) m (cw++[uf na x (false,0,0)]) ⟨(aAX (D:=D) (wd:=wd) uH ▸ u9),pE,hm9,aaf⟩ (he:=((((az.kill _ 10).trans (az.kill _ 11)).trans (az.kill _ 70))).trans (az.of_eq (aj (aj (aj (aj (bJ (by first | exact cl | (refine aw ?_;refine jo ?_ ?_<;>repeat (first | exact trivial | refine fF rfl ?_)))) cl) cl) cl) cl)))
  ·have uH:¬W<=m:=by omega
   refine bg ?_
   refine ah rfl cu ?_
   refine bw ?_
   try refine aw ?_
   refine eN [] rfl rfl (.bQ (f:=f) (cap:=cap) (args:=[.list 6 ((x.1.take na).map aD),.list 6 ((x.1.drop na).map aD)]) rfl (.cons (.pure hpt) (.cons (.pure hpd) .nil)) ⟨fx,jB⟩ hlk.1 ai (fun _ h=>by cases h)) (hlk.2 _) ?_
   refine bC ?_
   refine aL rfl ?_ ?_<;>intro aGT vJ
   ·refine aB ?_
    exact sK st (x :: jk) (m+1) cw ⟨(aBE (D:=D) (wd:=wd) uH vJ ▸ u9),pE,J,J⟩ (he:=((((az.kill _ 10).trans (az.kill _ 11)).trans (az.kill _ 12))).trans (az.of_eq (aj (aj (aj (aj (bJ (by first | exact cl | (refine aw ?_;refine jo ?_ ?_<;>repeat (first | exact trivial | refine fF rfl ?_)))) cl) cl) cl) cl)))
   ·refine aB ?_
    refine bR (az.ba (t:=12) (b:=12) rfl rfl rfl rfl rfl) ?_
    try refine aw ?_
    refine a7 ?_
    refine ia (fun L=>∃  (L1:St),(True)/\L=(((((((St.mk L1.slot (hp [(0,⟨7,[.agg [.agg [ae D,ae W,aa wd],.ref 1 4 0 cw.length,ae (m+1)]],true⟩),(1,⟨4,cw.map iW,true⟩),(26,⟨3,(st.reverse++(x :: jk)).map kH,true⟩),(10,⟨3,[.agg [.list 6 (x.1.map aD),ae x.2.1,.list 1 (x.2.2.map eP)]],true⟩),(11,⟨4,[.agg [.list 6 ((x.1.take na).map aD),.list 6 ((x.1.drop na).map aD),ae (k9 (lk (x.1.take na) (x.1.drop na))),ae (kV (lk (x.1.take na) (x.1.drop na)))]],true⟩)])).put (some 0) (.aF 0 7 0 0)).put (some 1) (.list 6 (A.map aD))).put (some 3) (.bQ f cap)).put (some 9) (.ref 26 3 0 st.length)).put (some 10) (.aF 10 3 0 0)).put (some 11) (.aF 11 4 0 0))) ?_ ?_
    ·refine aL rfl ?_ ?_<;>intro aLJ h91
     ·have ekv:k9 (lk (x.1.take na) (x.1.drop na))=(lk (x.1.take na) (x.1.drop na)).2.1:=if_neg J
      have ekK:kV (lk (x.1.take na) (x.1.drop na))=(lk (x.1.take na) (x.1.drop na)).2.2:=if_neg J
      refine ahp ?_
      refine iT 0 rfl rfl al (.pure gr) pQ lb ?_
      refine iT 1 rfl rfl al (.pure dE) pQ lb ?_
      refine iT 2 rfl rfl al (.pure gr) pQ lb ?_
      refine iT 3 rfl rfl al (.pure dE) pQ lb ?_
      refine aS 4 _ al rfl ?_
      refine ao ?_
      refine aC ?_
      refine aS 5 _ al rfl ?_
      refine ao ?_
      refine aC ?_
      refine aS 6 _ al rfl ?_
      refine ao ?_
      refine aC ?_
      refine aS 7 _ al rfl ?_
      refine ao ?_
      refine aC ?_
      refine dt al ?_
      refine ao ?_
      exact⟨_,trivial,((aj (aj (aj (aj (aj (aj (bJ cl) cl) cl) cl) cl) cl) cl)).symm⟩
     ·have ekv:k9 (lk (x.1.take na) (x.1.drop na))=1:=if_pos J
      have ekK:kV (lk (x.1.take na) (x.1.drop na))=0:=if_pos J
      refine aH ?_
      exact⟨_,trivial,((aj (aj (aj (aj (aj (aj (bJ cl) cl) cl) cl) cl) cl) cl)).symm⟩
    ·rintro _ ⟨aLk,-,rfl⟩
     refine bf ?_
     refine ep 101 rfl ?_ ?_<;>intro aLL aKs
     ·refine bB ?_
      refine aY 31 al ?_
      refine bf ?_
      refine cp aO (hSg) ?_
      refine aH ?_
      refine ep 115 rfl ?_ ?_<;>intro aHY aex
      ·refine uS ?_
       refine eZ 7 [0] al ?_
       refine ay ?_
       try refine aw ?_
       refine dF rfl rfl (yo (z:=iW ([],[],0,0)) (v:=.agg [.list 6 ((x.1.take na).map aD),.list 6 ((x.1.drop na).map aD),ae (k9 (lk (x.1.take na) (x.1.drop na))),ae (kV (lk (x.1.take na) (x.1.drop na)))]) oA xF rfl rfl pR rfl rfl rfl aay ai ai) ?_
       refine bO rfl abc ?_
       try refine aw ?_
       refine aH ?_
       try refine aw ?_
       refine bf ?_
       exact sK st (x :: jk) (m+1) (cw++[uf na x (lk (x.1.take na) (x.1.drop na))]) ⟨(abM (D:=D) (wd:=wd) uH vJ ab0 ▸ u9),pE,J,aaf⟩ (he:=((((az.kill _ 10).trans (az.kill _ 11)).trans (az.kill _ 143))).trans (az.of_eq (aj (aj (aj (aj (bJ (by first | exact cl | (refine aw ?_;refine jo ?_ ?_<;>repeat (first | exact trivial | refine fF rfl ?_)))) cl) cl) cl) cl)))
      ·refine bf ?_
       refine cp au (aqQ x.1 wd J (fun s hs=>(o5 s hs).1.le ai) J) ?_
       refine aB ?_
       refine ep 127 rfl ?_ ?_<;>intro aFC aeh
       ·refine dk ?_
        refine eZ 7 [0] al ?_
        refine ay ?_
        try refine aw ?_
        refine dF rfl rfl (yo (z:=iW ([],[],0,0)) (v:=.agg [.list 6 ((x.1.take na).map aD),.list 6 ((x.1.drop na).map aD),ae (k9 (lk (x.1.take na) (x.1.drop na))),ae (kV (lk (x.1.take na) (x.1.drop na)))]) oA xF rfl rfl pR rfl rfl rfl aay ai ai) ?_
        refine bO rfl abc ?_
        try refine aw ?_
        refine aH ?_
        try refine aw ?_
        refine bf ?_
        exact sK st (x :: jk) (m+1) (cw++[uf na x (lk (x.1.take na) (x.1.drop na))]) ⟨(abM (D:=D) (wd:=wd) uH vJ ab0 ▸ u9),pE,J,aaf⟩ (he:=((((az.kill _ 10).trans (az.kill _ 11)).trans (az.kill _ 143))).trans (az.of_eq (aj (aj (aj (aj (bJ (by first | exact cl | (refine aw ?_;refine jo ?_ ?_<;>repeat (first | exact trivial | refine fF rfl ?_)))) cl) cl) cl) cl)))
       ·refine bC ?_
        refine aL rfl ?_ ?_<;>intro amq amI
        ·refine ao ?_
         refine eZ 7 [0] al ?_
         refine ay ?_
         try refine aw ?_
         refine dF rfl rfl (yo (z:=iW ([],[],0,0)) (v:=.agg [.list 6 ((x.1.take na).map aD),.list 6 ((x.1.drop na).map aD),ae (k9 (lk (x.1.take na) (x.1.drop na))),ae (kV (lk (x.1.take na) (x.1.drop na)))]) oA xF rfl rfl pR rfl rfl rfl aay ai ai) ?_
         refine bO rfl abc ?_
         try refine aw ?_
         refine aH ?_
         try refine aw ?_
         refine bf ?_
         exact sK st (x :: jk) (m+1) (cw++[uf na x (lk (x.1.take na) (x.1.drop na))]) ⟨(abM (D:=D) (wd:=wd) uH vJ ab0 ▸ u9),pE,J,aaf⟩ (he:=((((az.kill _ 10).trans (az.kill _ 11)).trans (az.kill _ 143))).trans (az.of_eq (aj (aj (aj (aj (bJ (by first | exact cl | (refine aw ?_;refine jo ?_ ?_<;>repeat (first | exact trivial | refine fF rfl ?_)))) cl) cl) cl) cl)))
        ·have hmh:=ama (D:=D) (x:=x) (st:=st) J
         have nv:ou D wd x (lk (x.1.take na) (x.1.drop na))=false:=by first | exact akT aex (by simpa using aeh) J | exact aj9 J J
         refine a7 ?_
         refine bM rfl (.cons (.pure (vm x)) .nil) (amb x n D hlx bZ J hn9 hdx J (hL.tm x oD) 1000 ai o5) ?_
         refine df ?_
         try refine aw ?_
         refine bO rfl aol ?_
         refine aB ?_
         exact sK (oY x :: pF x :: st) ([]) (m+1) cw ⟨(alh (D:=D) (wd:=wd) uH vJ nv ▸ u9),fun y hy=>by
          simp only [ff] at hy
          rcases hy with rfl | rfl | hy
          ·exact(hL.half x oD J).1
          ·exact(hL.half x oD J).2
          ·exact pE y hy,J,J⟩ (he:=((((((az.kill _ 10).trans (az.kill _ 11)).trans (az.kill _ 14)).trans (az.kill _ 15)).trans (az.kill _ 155))).trans (az.of_eq (aj (aj (aj (aj (bJ (by first | exact cl | (refine aw ?_;refine jo ?_ ?_<;>repeat (first | exact trivial | refine fF rfl ?_)))) cl) cl) cl) cl)))
     ·refine bB ?_
      refine aY 31 al ?_
      refine aH ?_
      refine ep 107 rfl ?_ ?_<;>intro aLu aKp
      ·refine a7 ?_
       refine cp aO (hSg) ?_
       refine aH ?_
       refine ep 115 rfl ?_ ?_<;>intro aHY aex
       ·refine uS ?_
        refine eZ 7 [0] al ?_
        refine ay ?_
        try refine aw ?_
        refine dF rfl rfl (yo (z:=iW ([],[],0,0)) (v:=.agg [.list 6 ((x.1.take na).map aD),.list 6 ((x.1.drop na).map aD),ae (k9 (lk (x.1.take na) (x.1.drop na))),ae (kV (lk (x.1.take na) (x.1.drop na)))]) oA xF rfl rfl pR rfl rfl rfl aay ai ai) ?_
        refine bO rfl abc ?_
        try refine aw ?_
        refine aH ?_
        try refine aw ?_
        refine bf ?_
        exact sK st (x :: jk) (m+1) (cw++[uf na x (lk (x.1.take na) (x.1.drop na))]) ⟨(abM (D:=D) (wd:=wd) uH vJ ab0 ▸ u9),pE,J,aaf⟩ (he:=((((az.kill _ 10).trans (az.kill _ 11)).trans (az.kill _ 143))).trans (az.of_eq (aj (aj (aj (aj (bJ (by first | exact cl | (refine aw ?_;refine jo ?_ ?_<;>repeat (first | exact trivial | refine fF rfl ?_)))) cl) cl) cl) cl)))
       ·refine bf ?_
        refine cp au (aqQ x.1 wd J (fun s hs=>(o5 s hs).1.le ai) J) ?_
        refine aB ?_
        refine ep 127 rfl ?_ ?_<;>intro aFC aeh
        ·refine dk ?_
         refine eZ 7 [0] al ?_
         refine ay ?_
         try refine aw ?_
         refine dF rfl rfl (yo (z:=iW ([],[],0,0)) (v:=.agg [.list 6 ((x.1.take na).map aD),.list 6 ((x.1.drop na).map aD),ae (k9 (lk (x.1.take na) (x.1.drop na))),ae (kV (lk (x.1.take na) (x.1.drop na)))]) oA xF rfl rfl pR rfl rfl rfl aay ai ai) ?_
         refine bO rfl abc ?_
         try refine aw ?_
         refine aH ?_
         try refine aw ?_
         refine bf ?_
         exact sK st (x :: jk) (m+1) (cw++[uf na x (lk (x.1.take na) (x.1.drop na))]) ⟨(abM (D:=D) (wd:=wd) uH vJ ab0 ▸ u9),pE,J,aaf⟩ (he:=((((az.kill _ 10).trans (az.kill _ 11)).trans (az.kill _ 143))).trans (az.of_eq (aj (aj (aj (aj (bJ (by first | exact cl | (refine aw ?_;refine jo ?_ ?_<;>repeat (first | exact trivial | refine fF rfl ?_)))) cl) cl) cl) cl)))
        ·refine bC ?_
         refine aL rfl ?_ ?_<;>intro amq amI
         ·refine ao ?_
          refine eZ 7 [0] al ?_
          refine ay ?_
          try refine aw ?_
          refine dF rfl rfl (yo (z:=iW ([],[],0,0)) (v:=.agg [.list 6 ((x.1.take na).map aD),.list 6 ((x.1.drop na).map aD),ae (k9 (lk (x.1.take na) (x.1.drop na))),ae (kV (lk (x.1.take na) (x.1.drop na)))]) oA xF rfl rfl pR rfl rfl rfl aay ai ai) ?_
          refine bO rfl abc ?_
          try refine aw ?_
          refine aH ?_
          try refine aw ?_
          refine bf ?_
          exact sK st (x :: jk) (m+1) (cw++[uf na x (lk (x.1.take na) (x.1.drop na))]) ⟨(abM (D:=D) (wd:=wd) uH vJ ab0 ▸ u9),pE,J,aaf⟩ (he:=((((az.kill _ 10).trans (az.kill _ 11)).trans (az.kill _ 143))).trans (az.of_eq (aj (aj (aj (aj (bJ (by first | exact cl | (refine aw ?_;refine jo ?_ ?_<;>repeat (first | exact trivial | refine fF rfl ?_)))) cl) cl) cl) cl)))
         ·have hmh:=ama (D:=D) (x:=x) (st:=st) J
          have nv:ou D wd x (lk (x.1.take na) (x.1.drop na))=false:=by first | exact akT aex (by simpa using aeh) J | exact aj9 J J
          refine a7 ?_
          refine bM rfl (.cons (.pure (vm x)) .nil) (amb x n D hlx bZ J hn9 hdx J (hL.tm x oD) 1000 ai o5) ?_
          refine df ?_
          try refine aw ?_
          refine bO rfl aol ?_
          refine aB ?_
          exact sK (oY x :: pF x :: st) ([]) (m+1) cw ⟨(alh (D:=D) (wd:=wd) uH vJ nv ▸ u9),fun y hy=>by
           simp only [ff] at hy
           rcases hy with rfl | rfl | hy
           ·exact(hL.half x oD J).1
           ·exact(hL.half x oD J).2
           ·exact pE y hy,J,J⟩ (he:=((((((az.kill _ 10).trans (az.kill _ 11)).trans (az.kill _ 14)).trans (az.kill _ 15)).trans (az.kill _ 155))).trans (az.of_eq (aj (aj (aj (aj (bJ (by first | exact cl | (refine aw ?_;refine jo ?_ ?_<;>repeat (first | exact trivial | refine fF rfl ?_)))) cl) cl) cl) cl)))
      ·refine ano ?_
       refine aL rfl ?_ ?_<;>intro amq amI
       ·refine ao ?_
        refine eZ 7 [0] al ?_
        refine ay ?_
        try refine aw ?_
        refine dF rfl rfl (yo (z:=iW ([],[],0,0)) (v:=.agg [.list 6 ((x.1.take na).map aD),.list 6 ((x.1.drop na).map aD),ae (k9 (lk (x.1.take na) (x.1.drop na))),ae (kV (lk (x.1.take na) (x.1.drop na)))]) oA xF rfl rfl pR rfl rfl rfl aay ai ai) ?_
        refine bO rfl abc ?_
        try refine aw ?_
        refine aH ?_
        try refine aw ?_
        refine bf ?_
        exact sK st (x :: jk) (m+1) (cw++[uf na x (lk (x.1.take na) (x.1.drop na))]) ⟨(abM (D:=D) (wd:=wd) uH vJ ab0 ▸ u9),pE,J,aaf⟩ (he:=((((az.kill _ 10).trans (az.kill _ 11)).trans (az.kill _ 143))).trans (az.of_eq (aj (aj (aj (aj (bJ (by first | exact cl | (refine aw ?_;refine jo ?_ ?_<;>repeat (first | exact trivial | refine fF rfl ?_)))) cl) cl) cl) cl)))
       ·have hmh:=ama (D:=D) (x:=x) (st:=st) J
        have nv:ou D wd x (lk (x.1.take na) (x.1.drop na))=false:=by first | exact akT aex (by simpa using aeh) J | exact aj9 J J
        refine a7 ?_
        refine bM rfl (.cons (.pure (vm x)) .nil) (amb x n D hlx bZ J hn9 hdx J (hL.tm x oD) 1000 ai o5) ?_
        refine df ?_
        try refine aw ?_
        refine bO rfl aol ?_
        refine aB ?_
        exact sK (oY x :: pF x :: st) ([]) (m+1) cw ⟨(alh (D:=D) (wd:=wd) uH vJ nv ▸ u9),fun y hy=>by
         simp only [ff] at hy
         rcases hy with rfl | rfl | hy
         ·exact(hL.half x oD J).1
         ·exact(hL.half x oD J).2
         ·exact pE y hy,J,J⟩ (he:=((((((az.kill _ 10).trans (az.kill _ 11)).trans (az.kill _ 14)).trans (az.kill _ 15)).trans (az.kill _ 155))).trans (az.of_eq (aj (aj (aj (aj (bJ (by first | exact cl | (refine aw ?_;refine jo ?_ ?_<;>repeat (first | exact trivial | refine fF rfl ?_)))) cl) cl) cl) cl)))
 ·obtain rfl:st=[]:=by
   cases st with
   | nil=>rfl
   | cons x s=>simp at h29
  have hR:=hE.nil
  refine aB ?_
  rw [hR]
  refine⟨_,az.kill _ 26,?_⟩
  refine aw ?_
  exact aAt rfl rfl (by show (⟨_,_,_⟩:bA)=⟨_,_,_⟩;simp only [dX,LV.b7,qy,ae,LV.cQ (rD [1]) (aa wd) (an.pure wd)];rfl) aW rfl (agZ _) rfl
structure oc (x:LV) (n:Nat):Prop where
 cs:x.av=n
 ag:x.isAgg=true
 pu:x.pure=true
theorem oc.kill {x:LV} {n:Nat} (h:oc x n) (b:Nat):LV.kill b x=x:=LV.nz b x h.pu
def lkG (X Y:jt) (K:Nat):Bool × Nat × Nat:=if meB X Y then(false,K,0) else(true,0,0)
namespace aqe
theorem aw {p q:Prop} (k:q) (e:p=q:=by simp only [e1,e2,e3,e4,p1,p2,p3,q1,q2,q3,l1,t0,t1,r1,r2,r3,r4,Nat.zero_add,Nat.reduceMul,Nat.reduceAdd,b1,b2,b3,b4,b5,b6,i1,i2,i3,i4,i5,i6,Nat.reduceBEq,hX.kill,hP.kill,List.length_map,fo,eO,dW,List.length_cons,List.length_nil,List.nil_append,List.map_nil,List.take_nil,List.append_nil,aG bl,List.getD_cons_zero,List.getD_cons_succ,List.set_cons_zero,List.set_cons_succ,Nat.reduceEqDiff,reduceIte,if_true,if_false,cB,dB,aG aX,aG bz,aG an,cA,cC,LV.kill,bH];exact rfl):p:=e.mpr k
end aqe
open aqe in
theorem aAd (s u v:Sp) (C X S P:LV) (hC:oc C 3) (hX:oc X 3) (hS:oc S 5) (hP:oc P 5) (bX bP:jt) (R:Nat) (hR:R<=1000000) (hbX:gI R bX) (hbP:gI R bP) (K:Nat) (hC1:ax ak 54 [C,aa s.1,aa s.2] (.a9 [X,iL 0])) (hC2:ax ak 39 [S,aD u,aD v] (.a9 [P,iL 0])) (hX1:ax ak 55 [X] (fY bX)) (hX2:ax ak 41 [P] (fY bP)) (hKi:meB bX bP=true->ax ak 56 [X,P] (ae K)):ax ak 53 [.list 6 ([s].map aD),.list 6 ([u,v].map aD),.ba C,.ba S] (vdL (lkG bX bP K)):=by
 have hus:aD s=.agg [aa s.1,aa s.2]:=by unfold aD;rfl
 have hMB:=azP bX bP R J hbX hbP
 refine aR Tryz.func53 (ht:=(fun g=>LV.cQ g _ (aAr _))) ?_
 refine ay ?_
 refine eZ 14 [12] al ?_
 refine ah rfl (.l9 rfl hC.pu hC.cs hC.ag) ?_
 refine ao ?_
 refine ah rfl (.gD (n:=0) (r:=.agg [aa s.1,aa s.2]) rfl qd jM rfl ai (by show some (aD s)=_;rw [hus]) (by rw [<-hus];exact bl.av _)) ?_
 refine aQ ?_
 refine ah rfl (.gD (n:=0) (r:=.agg [aa s.1,aa s.2]) rfl qd jM rfl ai (by show some (aD s)=_;rw [hus]) (by rw [<-hus];exact bl.av _)) ?_
 refine aH ?_
 refine bM rfl (.cons (.pure hC.pu) (.cons (.pure (an.pure _)) (.cons (.pure (an.pure _)) (.nil)))) hC1 ?_
 refine ao ?_
 refine ah rfl (.extract rfl rfl (LV.dG hX.pu)) ?_
 refine aH ?_
 refine aw ?_
 refine bO rfl (.store rfl rfl rfl rfl rfl rfl (yp _ _ hX.cs.symm hX.ag.symm) (show bK _ _ (X).av (X).isAgg by rw [hX.cs,hX.ag];exact ob) ⟨LV.dT hX.pu,LV.dG hX.pu⟩) ?_
 refine aB ?_
 refine eZ 12 [10] al ?_
 refine ah rfl (.l9 rfl hS.pu hS.cs hS.ag) ?_
 refine ay ?_
 refine aw ?_
 refine bM rfl (.cons (.pure hS.pu) (.cons (.pure (bl.pure _)) (.cons (.pure (bl.pure _)) (.nil)))) hC2 ?_
 refine ao ?_
 refine ah rfl (.extract rfl rfl (LV.dG hP.pu)) ?_
 refine aH ?_
 refine aw ?_
 refine bO rfl (.store rfl rfl rfl rfl rfl rfl (yp _ _ hP.cs.symm hP.ag.symm) (show bK _ _ (P).av (P).isAgg by rw [hP.cs,hP.ag];exact nd) ⟨LV.dT hP.pu,LV.dG hP.pu⟩) ?_
 refine a7 ?_
 refine aY 6 al ?_
 try refine aw ?_
 refine ah rfl (.dU (b:=7) (sz:=3) (i:=0) (o:=0) (x:=X) (r:=X) (n:=3) (ag:=true) rfl rfl rfl rfl hX.cs (cr hX.cs hX.ag) ob) ?_
 refine bM rfl (.cons (.pure hX.pu) (.nil)) hX1 ?_
 try refine aw ?_
 refine ah rfl (.dU (b:=9) (sz:=5) (i:=0) (o:=0) (x:=P) (r:=P) (n:=5) (ag:=true) rfl rfl rfl rfl hP.cs (cr hP.cs hP.ag) nd) ?_
 refine bM rfl (.cons (.pure hP.pu) (.nil)) hX2 ?_
 refine bM rfl (.cons (.pure (og.pure _)) (.cons (.pure (og.pure _)) .nil)) hMB ?_
 refine aQ ?_
 refine aL rfl ?_ ?_<;>intro zi pS
 ·have hv:(lkG bX bP K)=(true,0,0):=if_neg (by simpa using pS)
  refine bg ?_
  exact fi [] rfl rfl rfl cs (cr cs rfl) T93 (by rw [hv];exact .pure pu)
 ·have hm:meB bX bP=true:=by simpa using pS
  have hv:(lkG bX bP K)=(false,K,0):=if_pos hm
  have hKi:=hKi hm
  refine aB ?_
  try refine aw ?_
  refine ah rfl (.dU (b:=7) (sz:=3) (i:=0) (o:=0) (x:=X) (r:=X) (n:=3) (ag:=true) rfl rfl rfl rfl hX.cs (cr hX.cs hX.ag) ob) ?_
  try refine aw ?_
  refine ah rfl (.dU (b:=9) (sz:=5) (i:=0) (o:=0) (x:=P) (r:=P) (n:=5) (ag:=true) rfl rfl rfl rfl hP.cs (cr hP.cs hP.ag) nd) ?_
  refine bM rfl (.cons (.pure hX.pu) (.cons (.pure hP.pu) (.nil))) hKi ?_
  refine a7 ?_
  exact fi [] rfl rfl rfl cs (cr cs rfl) T93 (by rw [hv];exact .pure pu)
open xW in
theorem atm (a:jt) (R:Nat) (hR:R<=1000000000) (ha:gI R a):ax ak 90 [fY a] (fY (pj a)):=by
 obtain⟨a1,a2,a3⟩:=ha
 refine aR Tryz.func90 (ht:=(fun r=>LV.cQ r _ (og.pure _))) ?_
 refine dk ?_
 refine bc ?_
 refine ay ?_
 refine bI (b:=_) rfl ai ?_
 refine eQ ?_
 refine cp aO (alz a.x R hR a1) ?_
 refine bh ?_
 refine bc ?_
 refine ay ?_
 refine bI (b:=_) rfl ai ?_
 refine eQ ?_
 refine cp aO (alz a.y R hR a2) ?_
 refine bh ?_
 refine bc ?_
 refine ay ?_
 refine bI (b:=_) rfl ai ?_
 refine eQ ?_
 refine cp aO (alz a.z R hR a3) ?_
 refine bh ?_
 refine bc ?_
 refine ay ?_
 refine dp (b:=_) rfl ai ?_
 refine bw ?_
 exact aeF
open xW in
theorem aG1 (a b c:jt):ax ak 93 [fY a,fY b,fY c] (qi a b c):=by
 refine aR Tryz.func93 (ht:=(fun r=>LV.cQ r _ (adO _ _ _))) ?_
 refine lF ?_
 refine bc ?_
 refine ay ?_
 refine bI (b:=_) rfl ai ?_
 refine bh ?_
 refine aY 12 al ?_
 refine bh ?_
 refine aw ?_
 refine ah rfl (ajb (v0:=aD a.x) (v1:=aD b.x) (v2:=aD c.x) adF jM Z97 lz rfl rfl rfl lz lz lz (bl.pure _) (bl.pure _) (bl.pure _)) ?_
 refine ao ?_
 refine aw ?_
 refine bO rfl (.jd (v:=fY ⟨a.x,b.x,c.x⟩) rfl rfl rfl rfl pw pw rfl (aI1 pw pw pw pw rfl rfl) ⟨by simp [fY],by simp [fY]⟩) ?_
 refine bg ?_
 refine bc ?_
 refine ay ?_
 refine bI (b:=_) rfl ai ?_
 refine bh ?_
 refine aY 12 al ?_
 refine bh ?_
 refine aw ?_
 refine ah rfl (ajb (v0:=aD a.y) (v1:=aD b.y) (v2:=aD c.y) adF jM Z97 lz rfl rfl rfl lz lz lz (bl.pure _) (bl.pure _) (bl.pure _)) ?_
 refine ao ?_
 refine aw ?_
 refine bO rfl (.jd (v:=fY ⟨a.y,b.y,c.y⟩) rfl rfl rfl rfl pw pw rfl (aFs pw pw pw pw rfl rfl) ⟨by simp [fY],by simp [fY]⟩) ?_
 refine bg ?_
 refine bc ?_
 refine ay ?_
 refine bI (b:=_) rfl ai ?_
 refine bh ?_
 refine aY 12 al ?_
 refine bh ?_
 refine aw ?_
 refine ah rfl (ajb (v0:=aD a.z) (v1:=aD b.z) (v2:=aD c.z) adF jM Z97 lz rfl rfl rfl lz lz lz (bl.pure _) (bl.pure _) (bl.pure _)) ?_
 refine ao ?_
 refine aw ?_
 refine bO rfl (.jd (v:=fY ⟨a.z,b.z,c.z⟩) rfl rfl rfl rfl pw pw rfl (aJT pw pw pw pw rfl rfl) ⟨by simp [fY],by simp [fY]⟩) ?_
 refine bg ?_
 refine bc ?_
 refine ay ?_
 refine dp (b:=_) rfl ai ?_
 refine bw ?_
 exact fi [] rfl rfl rfl cs (cr cs rfl) apX (.pure pu)
namespace ahC
theorem aw {p q:Prop} (k:q) (e:p=q:=by simp only [e1,e2,e3,e4,p1,p2,p3,q1,q2,q3,l1,t0,t1,r1,r2,r3,r4,Nat.zero_add,Nat.reduceMul,Nat.reduceAdd,b1,b2,b3,b4,b5,b6,i1,i2,i3,i4,i5,i6,Nat.reduceBEq,qi,List.getD_cons_zero,List.getD_cons_succ,List.set_cons_zero,List.set_cons_succ,Nat.reduceEqDiff,reduceIte,if_true,if_false,cB,dB,aG aX,aG bz,aG an,cA,cC,LV.kill,bH];exact rfl):p:=e.mpr k
end ahC
open ahC in
theorem aJE (a b c:jt) (R:Nat) (hR:R<=10000000) (ha:gI R a) (hb:gI R b) (hc:gI R c):ax ak 166 [ae 1,ae 2,.ba (qi a b c)] (aD (qQ b.y c.y b.z c.z)):=by
 obtain⟨a1,a2,a3⟩:=ha
 obtain⟨y1,y2,y3⟩:=hb
 obtain⟨z1,z2,z3⟩:=hc
 have fu:=adO a b c
 have hpD:LV.pure (.agg [.agg [aD b.y,aD c.y],.agg [aD b.z,aD c.z]])=true:=by simp [LV.pure,aK,bl.pure]
 refine aR ang (ht:=(fun r=>LV.cQ r _ (bl.pure _))) ?_
 refine ay ?_
 refine aY 20 al ?_
 refine bg ?_
 refine aw ?_
 refine ah rfl (uW (v0:=aD b.y) (v1:=aD c.y) yQ jM adU lz rfl rfl lz lz (bl.pure _) (bl.pure _)) ?_
 refine bg ?_
 refine aw ?_
 refine ah rfl (uW (v0:=aD b.z) (v1:=aD c.z) yQ jM adU lz rfl rfl lz lz (bl.pure _) (bl.pure _)) ?_
 try refine aw ?_
 refine ah rfl (uW (v0:=.agg [aD b.y,aD c.y]) (v1:=.agg [aD b.z,aD c.z]) akF agv ak4 lz rfl rfl lz lz pu pu) ?_
 try refine aw ?_
 refine bM rfl (.cons (.pure hpD) .nil) (als b.y c.y b.z c.z R J y2 z2 y3 z3) ?_
 refine aB ?_
 exact od
open ahC in
theorem aFQ (a b c:jt) (R:Nat) (hR:R<=10000000) (ha:gI R a) (hb:gI R b) (hc:gI R c):ax ak 166 [ae 0,ae 2,.ba (qi a b c)] (aD (qQ a.y c.y a.z c.z)):=by
 obtain⟨a1,a2,a3⟩:=ha
 obtain⟨y1,y2,y3⟩:=hb
 obtain⟨z1,z2,z3⟩:=hc
 have fu:=adO a b c
 have hpD:LV.pure (.agg [.agg [aD a.y,aD c.y],.agg [aD a.z,aD c.z]])=true:=by simp [LV.pure,aK,bl.pure]
 refine aR ang (ht:=(fun r=>LV.cQ r _ (bl.pure _))) ?_
 refine ay ?_
 refine aY 20 al ?_
 refine bg ?_
 refine aw ?_
 refine ah rfl (uW (v0:=aD a.y) (v1:=aD c.y) yQ jM adU lz rfl rfl lz lz (bl.pure _) (bl.pure _)) ?_
 refine bg ?_
 refine aw ?_
 refine ah rfl (uW (v0:=aD a.z) (v1:=aD c.z) yQ jM adU lz rfl rfl lz lz (bl.pure _) (bl.pure _)) ?_
 try refine aw ?_
 refine ah rfl (uW (v0:=.agg [aD a.y,aD c.y]) (v1:=.agg [aD a.z,aD c.z]) akF agv ak4 lz rfl rfl lz lz pu pu) ?_
 try refine aw ?_
 refine bM rfl (.cons (.pure hpD) .nil) (als a.y c.y a.z c.z R J a2 z2 a3 z3) ?_
 refine aB ?_
 exact od
open ahC in
theorem ayV (a b c:jt) (R:Nat) (hR:R<=10000000) (ha:gI R a) (hb:gI R b) (hc:gI R c):ax ak 166 [ae 0,ae 1,.ba (qi a b c)] (aD (qQ a.y b.y a.z b.z)):=by
 obtain⟨a1,a2,a3⟩:=ha
 obtain⟨y1,y2,y3⟩:=hb
 obtain⟨z1,z2,z3⟩:=hc
 have fu:=adO a b c
 have hpD:LV.pure (.agg [.agg [aD a.y,aD b.y],.agg [aD a.z,aD b.z]])=true:=by simp [LV.pure,aK,bl.pure]
 refine aR ang (ht:=(fun r=>LV.cQ r _ (bl.pure _))) ?_
 refine ay ?_
 refine aY 20 al ?_
 refine bg ?_
 refine aw ?_
 refine ah rfl (uW (v0:=aD a.y) (v1:=aD b.y) yQ jM adU lz rfl rfl lz lz (bl.pure _) (bl.pure _)) ?_
 refine bg ?_
 refine aw ?_
 refine ah rfl (uW (v0:=aD a.z) (v1:=aD b.z) yQ jM adU lz rfl rfl lz lz (bl.pure _) (bl.pure _)) ?_
 try refine aw ?_
 refine ah rfl (uW (v0:=.agg [aD a.y,aD b.y]) (v1:=.agg [aD a.z,aD b.z]) akF agv ak4 lz rfl rfl lz lz pu pu) ?_
 try refine aw ?_
 refine bM rfl (.cons (.pure hpD) .nil) (als a.y b.y a.z b.z R J a2 y2 a3 y3) ?_
 refine aB ?_
 exact od
namespace ap6
theorem aw {p q:Prop} (k:q) (e:p=q:=by simp only [e1,e2,e3,e4,p1,p2,p3,q1,q2,q3,l1,t0,t1,r1,r2,r3,r4,Nat.zero_add,Nat.reduceMul,Nat.reduceAdd,b1,b2,b3,b4,b5,b6,i1,i2,i3,i4,i5,i6,Nat.reduceBEq,qi,p9,zh,List.getD_cons_zero,List.getD_cons_succ,List.set_cons_zero,List.set_cons_succ,Nat.reduceEqDiff,reduceIte,if_true,if_false,cB,dB,aG aX,aG bz,aG an,cA,cC,LV.kill,bH];exact rfl):p:=e.mpr k
end ap6
open ap6 in
theorem aGN (a b c:jt) (R:Nat) (hR:R<=10000000) (ha:gI R a) (hb:gI R b) (hc:gI R c):ax ak 92 [(qi a b c)] (aD (d3S a b c)):=by
 obtain⟨a1,a2,a3⟩:=ha
 obtain⟨y1,y2,y3⟩:=hb
 obtain⟨z1,z2,z3⟩:=hc
 have fu:=adO a b c
 have fx:aK [.ba (qi a b c)]=true:=by simp [aK,LV.pure,qi,bl.pure]
 have jB:∀ x∈[LV.ba (qi a b c)],x.av=1/\x.isAgg=false:=fun x hx=>by rw [fP.1 hx];exact⟨rfl,rfl⟩
 have k12:=aJE a b c R hR ⟨a1,a2,a3⟩ ⟨y1,y2,y3⟩ ⟨z1,z2,z3⟩
 have k02:=aFQ a b c R hR ⟨a1,a2,a3⟩ ⟨y1,y2,y3⟩ ⟨z1,z2,z3⟩
 have k01:=ayV a b c R hR ⟨a1,a2,a3⟩ ⟨y1,y2,y3⟩ ⟨z1,z2,z3⟩
 have axV:=ac7 y2 z2 y3 z3
 have awr:=ac7 a2 z2 a3 z3
 have aqm:=ac7 a2 y2 a3 y3
 have hmA:=wB a1 axV
 have hmB:=wB y1 awr
 have hmC:=wB z1 aqm
 have aIg:=aiC hmA hmB
 refine aR Tryz.func92 (ht:=(fun r=>LV.cQ r _ (bl.pure _))) ?_
 refine bg ?_
 refine eN [1] rfl rfl (.mk (caps:=[.ba (qi a b c)]) (.cons (.aF rfl rfl rfl cs (cr cs rfl) fu rfl) .nil) jB) rfl ?_
 refine aB ?_
 refine aY 20 al ?_
 refine aB ?_
 refine eN [] rfl rfl (.bQ (f:=166) (cap:=[.ba (qi a b c)]) (args:=[ae 1,ae 2]) rfl (.cons (.pure rfl) (.cons (.pure rfl) .nil)) ⟨fx,jB⟩ k12.1 ai (fun _ h=>by cases h)) (k12.2 _) ?_
 refine cp au (adW a.x (qQ b.y c.y b.z c.z) (4*R+1) J (a1.le J) axV) ?_
 refine aB ?_
 refine eN [] rfl rfl (.bQ (f:=166) (cap:=[.ba (qi a b c)]) (args:=[ae 0,ae 2]) rfl (.cons (.pure rfl) (.cons (.pure rfl) .nil)) ⟨fx,jB⟩ k02.1 ai (fun _ h=>by cases h)) (k02.2 _) ?_
 refine cp au (adW b.x (qQ a.y c.y a.z c.z) (4*R+1) J (y1.le J) awr) ?_
 refine cp au (amA (kz a.x (qQ b.y c.y b.z c.z)) (kz b.x (qQ a.y c.y a.z c.z)) (R+(4*R+1)) J hmA hmB) ?_
 refine aB ?_
 refine eN [] rfl rfl (.bQ (f:=166) (cap:=[.ba (qi a b c)]) (args:=[ae 0,ae 1]) rfl (.cons (.pure rfl) (.cons (.pure rfl) .nil)) ⟨fx,jB⟩ k01.1 ai (fun _ h=>by cases h)) (k01.2 _) ?_
 refine cp au (adW c.x (qQ a.y b.y a.z b.z) (4*R+1) J (z1.le J) aqm) ?_
 refine cp au (aCp (vS (kz a.x (qQ b.y c.y b.z c.z)) (kz b.x (qQ a.y c.y a.z c.z))) (kz c.x (qQ a.y b.y a.z b.z)) (20*R+10) J (aIg.le J) (hmC.le J)) ?_
 refine aB ?_
 exact od
theorem aEe (m:M3) (q:V3):(ez m).put 0 (aE q)=some (ez ⟨q,m.b,m.c,m.t⟩):=by
 have hq:∀ p,(aE p).put 0 (aE q)=some (aE q):=fun p=>ptp
 simp [ez,LV.put,qY,LV.av,cL,aX.av,hq]
theorem aFq (m:M3) (q:V3):(ez m).put 9 (aE q)=some (ez ⟨m.a,q,m.c,m.t⟩):=by
 have hq:∀ p,(aE p).put 0 (aE q)=some (aE q):=fun p=>ptp
 simp [ez,LV.put,qY,LV.av,cL,aX.av,hq]
theorem aHS (m:M3) (q:V3):(ez m).put 18 (aE q)=some (ez ⟨m.a,m.b,q,m.t⟩):=by
 have hq:∀ p,(aE p).put 0 (aE q)=some (aE q):=fun p=>ptp
 simp [ez,LV.put,qY,LV.av,cL,aX.av,hq]
def mdM (a b c:V3):M3:=⟨⟨a.x,-b.x,-c.x⟩,⟨a.y,-b.y,-c.y⟩,⟨a.z,-b.z,-c.z⟩,⟨0,0,0⟩⟩
namespace avu
theorem aw {p q:Prop} (k:q) (e:p=q:=by simp only [e1,e2,e3,e4,p1,p2,p3,q1,q2,q3,l1,t0,t1,r1,r2,r3,r4,Nat.zero_add,Nat.reduceMul,Nat.reduceAdd,b1,b2,b3,b4,b5,b6,i1,i2,i3,i4,i5,i6,Nat.reduceBEq,hC.kill,hS.kill,hC.cs,hS.cs,ai4,List.getD_cons_zero,List.getD_cons_succ,List.set_cons_zero,List.set_cons_succ,Nat.reduceEqDiff,reduceIte,if_true,if_false,cB,dB,aG aX,aG bz,aG an,cA,cC,LV.kill,bH];exact rfl):p:=e.mpr k
end avu
open avu in
theorem aE1 (C S:LV) (hC:oc C 3) (hS:oc S 5) (s u v:Sp) (x y z:Rat) (a b c:V3) (R:Nat) (hR:R<=1000000) (hb:cP R b) (hc:cP R c) (hDo:ax ak 36 [S] (.a9 [aD u,aD v])) (hDc:ax ak 52 [C] (aD s)) (hMs:ax ak 201 [aD s] (aa x)) (hMu:ax ak 201 [aD u] (aa y)) (hMv:ax ak 201 [aD v] (aa z)) (hT:ax ak 200 [C,aa x] (.a9 [aE a,iL 0])) (hDv:ax ak 202 [S,aa y,aa z] (.a9 [aE b,aE c,iL 0])):ax ak 116 [C,S] (ez (mdM a b c)):=by
 obtain⟨y1,y2,y3⟩:=hb
 obtain⟨z1,z2,z3⟩:=hc
 refine aR Tryz.func116 (ht:=(fun r=>LV.cQ r _ (fj.pure _))) ?_
 refine aH ?_
 refine dF rfl rfl (.box ⟨LV.dT hC.pu,LV.dG hC.pu⟩) ?_
 refine dF rfl rfl (.box ⟨LV.dT hS.pu,LV.dG hS.pu⟩) ?_
 refine a7 ?_
 try refine aw ?_
 refine ah rfl (.dU (b:=3) (sz:=5) (i:=0) (o:=0) (x:=S) (r:=S) (n:=5) (ag:=true) rfl rfl rfl rfl hS.cs (cr hS.cs hS.ag) nd) ?_
 refine bM rfl (.cons (.pure hS.pu) (.nil)) hDo ?_
 refine bh ?_
 refine eZ 9 [7] al ?_
 try refine aw ?_
 refine ah rfl (.dU (b:=2) (sz:=3) (i:=0) (o:=0) (x:=C) (r:=C) (n:=3) (ag:=true) rfl rfl rfl rfl hC.cs (cr hC.cs hC.ag) ob) ?_
 try refine aw ?_
 refine ah rfl (.dU (b:=2) (sz:=3) (i:=0) (o:=0) (x:=C) (r:=C) (n:=3) (ag:=true) rfl rfl rfl rfl hC.cs (cr hC.cs hC.ag) ob) ?_
 refine bM rfl (.cons (.pure hC.pu) (.nil)) hDc ?_
 refine cp aO (hMs) ?_
 refine bM rfl (.cons (.pure hC.pu) (.cons (.pure (an.pure _)) (.nil))) hT ?_
 refine bB ?_
 refine ia (fun L=>∃  (L1:St),(True)/\L=(((((St.mk L1.slot (hp [(2,⟨3,[C],true⟩),(4,⟨36,[ez (⟨⟨0,0,0⟩,⟨0,0,0⟩,⟨0,0,0⟩,⟨0,0,0⟩⟩:M3)],true⟩),(7,⟨(LV.agg [aa 0,aa 0,aa 0]).av,[aE a],true⟩),(9,⟨(LV.agg [aa 0,aa 0,aa 0]).av,[aE b],true⟩),(10,⟨(LV.agg [aa 0,aa 0,aa 0]).av,[aE c],true⟩)])).put (some 4) (.aF 4 36 0 0)).put (some 7) (.aF 7 (LV.agg [aa 0,aa 0,aa 0]).av 0 0)).put (some 9) (.aF 9 (LV.agg [aa 0,aa 0,aa 0]).av 0 0)).put (some 10) (.aF 10 (LV.agg [aa 0,aa 0,aa 0]).av 0 0))) ?_ ?_
 ·refine alr (((az.ba (t:=3) (b:=3) rfl rfl hS.cs hS.ag hS.pu).trans (az.ba (t:=5) (b:=5) rfl rfl (by simp only [cC];exact bl.av _) (by simp only [cC];exact bl.isAgg _) (by simp only [cC];exact bl.pure _))).trans (az.ba (t:=6) (b:=6) rfl rfl (by simp only [cC];exact bl.av _) (by simp only [cC];exact bl.isAgg _) (by simp only [cC];exact bl.pure _))) ?_
  refine aw ?_
  refine iT 0 rfl rfl al (.pure (.l9 rfl hS.pu hS.cs hS.ag)) (fun k=>LV.nz k _ hS.pu) lb ?_
  refine iT 1 rfl rfl al (.pure (.l9 rfl (bl.pure _) (bl.av _) (bl.isAgg _))) (fun k=>cC _ k) lb ?_
  refine iT 2 rfl rfl al (aje (.cons (.pure (bl.pure _)) .nil) hMu) (fun k=>cA _ k) (fF (fun _=>rfl) (fF (fun k=>show LV.kill k (aD u)=aD u from cC _ k) trivial)) ?_
  refine iT 3 rfl rfl al (.pure (.l9 rfl (bl.pure _) (bl.av _) (bl.isAgg _))) (fun k=>cC _ k) lb ?_
  refine iT 4 rfl rfl al (aje (.cons (.pure (bl.pure _)) .nil) hMv) (fun k=>cA _ k) (fF (fun _=>rfl) (fF (fun k=>show LV.kill k (aD v)=aD v from cC _ k) trivial)) ?_
  refine iT 5 rfl rfl al (aje (.cons (.pure hS.pu) (.cons (.pure (an.pure _)) (.cons (.pure (an.pure _)) .nil))) hDv) (fun k=>show LV.kill k (.a9 [aE b,aE c,iL 0]:LV)=(.a9 [aE b,aE c,iL 0]:LV) from by simp only [LV.kill,bH,cB]) (fF (fun _=>rfl) (fF (fun k=>show LV.kill k S=S from LV.nz k _ hS.pu) (fF (fun k=>show LV.kill k (aa y)=aa y from cA _ k) (fF (fun k=>show LV.kill k (aa z)=aa z from cA _ k) trivial)))) ?_
  refine iT 6 rfl rfl al (.pure (.move _)) (fun k=>show LV.kill k (.a9 [aE b,aE c,iL 0]:LV)=(.a9 [aE b,aE c,iL 0]:LV) from by simp only [LV.kill,bH,cB]) (fF (fun k=>show LV.kill k (.a9 [aE b,aE c,iL 0]:LV)=(.a9 [aE b,aE c,iL 0]:LV) from by simp only [LV.kill,bH,cB]) trivial) ?_
  refine iT 7 rfl rfl al (.pure (.extract rfl rfl (LV.dG (aX.pure _)))) (fun k=>cB _ k) (fF (fun k=>show LV.kill k (.a9 [aE b,aE c,iL 0]:LV)=(.a9 [aE b,aE c,iL 0]:LV) from by simp only [LV.kill,bH,cB]) trivial) ?_
  refine iT 8 rfl rfl al (.pure (.extract rfl rfl (LV.dG (aX.pure _)))) (fun k=>cB _ k) (fF (fun k=>show LV.kill k (.a9 [aE b,aE c,iL 0]:LV)=(.a9 [aE b,aE c,iL 0]:LV) from by simp only [LV.kill,bH,cB]) trivial) ?_
  refine iT 9 rfl rfl al (.pure (.extract rfl rfl (LV.dG rfl))) pQ (fF (fun k=>show LV.kill k (.a9 [aE b,aE c,iL 0]:LV)=(.a9 [aE b,aE c,iL 0]:LV) from by simp only [LV.kill,bH,cB]) trivial) ?_
  refine eG 10 11 _ _ al rfl rfl ?_ ?_
  ·refine ao ?_
   refine aC ?_
   refine aS 11 _ al rfl ?_
   refine ao ?_
   refine aC ?_
   refine aS 12 _ al rfl ?_
   refine ao ?_
   refine aC ?_
   refine aS 13 _ al rfl ?_
   refine ao ?_
   refine aC ?_
   refine aS 14 _ al rfl ?_
   refine ao ?_
   refine aC ?_
   refine dt al ?_
   refine ao ?_
   exact⟨_,trivial,((aj (aj (aj (aj (bJ (by first | exact cl | (refine aw ?_;refine jo ?_ ?_<;>repeat (first | exact trivial | refine fF rfl ?_)))) cl) cl) cl) cl)).symm⟩
  ·refine ao ?_
   refine aC ?_
   refine aS 10 _ al rfl ?_
   refine ao ?_
   refine aC ?_
   refine aS 12 _ al rfl ?_
   refine ao ?_
   refine aC ?_
   refine aS 13 _ al rfl ?_
   refine ao ?_
   refine aC ?_
   refine aS 14 _ al rfl ?_
   refine ao ?_
   refine aC ?_
   refine dt al ?_
   refine ao ?_
   exact⟨_,trivial,((aj (aj (aj (aj (bJ (by first | exact cl | (refine aw ?_;refine jo ?_ ?_<;>repeat (first | exact trivial | refine fF rfl ?_)))) cl) cl) cl) cl)).symm⟩
 ·rintro _ ⟨LR3,-,rfl⟩
  refine dk ?_
  refine bc ?_
  refine ay ?_
  refine bI (b:=_) rfl ai ?_
  refine bh ?_
  refine aY 15 al ?_
  refine bf ?_
  refine cp aO (z5 b.x J) ?_
  refine aQ ?_
  refine cp aO (z5 c.x J) ?_
  refine aQ ?_
  try refine aw ?_
  refine bO rfl (.store (y:=ez (⟨⟨0,0,0⟩,⟨0,0,0⟩,⟨0,0,0⟩,⟨0,0,0⟩⟩:M3)) (y':=ez (⟨⟨a.x,-b.x,-c.x⟩,⟨0,0,0⟩,⟨0,0,0⟩,⟨0,0,0⟩⟩:M3)) rfl rfl rfl rfl rfl (fj.av _) (aEe (⟨⟨0,0,0⟩,⟨0,0,0⟩,⟨0,0,0⟩,⟨0,0,0⟩⟩:M3) ⟨a.x,-b.x,-c.x⟩) (by show bK _ _ (LV.av (aE ⟨a.x,-b.x,-c.x⟩)) (LV.isAgg (aE ⟨a.x,-b.x,-c.x⟩));rw [aX.av,aX.isAgg];exact iQ) ⟨LV.dT (aX.pure ⟨a.x,-b.x,-c.x⟩),LV.dG (aX.pure ⟨a.x,-b.x,-c.x⟩)⟩) ?_
  refine bg ?_
  refine bc ?_
  refine ay ?_
  refine bI (b:=_) rfl ai ?_
  refine bh ?_
  refine aY 15 al ?_
  refine bf ?_
  refine cp aO (z5 b.y J) ?_
  refine aQ ?_
  refine cp aO (z5 c.y J) ?_
  refine aQ ?_
  try refine aw ?_
  refine bO rfl (.store (y:=ez (⟨⟨a.x,-b.x,-c.x⟩,⟨0,0,0⟩,⟨0,0,0⟩,⟨0,0,0⟩⟩:M3)) (y':=ez (⟨⟨a.x,-b.x,-c.x⟩,⟨a.y,-b.y,-c.y⟩,⟨0,0,0⟩,⟨0,0,0⟩⟩:M3)) rfl rfl rfl rfl rfl (fj.av _) (aFq (⟨⟨a.x,-b.x,-c.x⟩,⟨0,0,0⟩,⟨0,0,0⟩,⟨0,0,0⟩⟩:M3) ⟨a.y,-b.y,-c.y⟩) (by show bK _ _ (LV.av (aE ⟨a.y,-b.y,-c.y⟩)) (LV.isAgg (aE ⟨a.y,-b.y,-c.y⟩));rw [aX.av,aX.isAgg];exact iQ) ⟨LV.dT (aX.pure ⟨a.y,-b.y,-c.y⟩),LV.dG (aX.pure ⟨a.y,-b.y,-c.y⟩)⟩) ?_
  refine bg ?_
  refine bc ?_
  refine ay ?_
  refine bI (b:=_) rfl ai ?_
  refine bh ?_
  refine aY 15 al ?_
  refine bf ?_
  refine cp aO (z5 b.z J) ?_
  refine aQ ?_
  refine cp aO (z5 c.z J) ?_
  refine aQ ?_
  try refine aw ?_
  refine bO rfl (.store (y:=ez (⟨⟨a.x,-b.x,-c.x⟩,⟨a.y,-b.y,-c.y⟩,⟨0,0,0⟩,⟨0,0,0⟩⟩:M3)) (y':=ez (mdM a b c)) rfl rfl rfl rfl rfl (fj.av _) (aHS (⟨⟨a.x,-b.x,-c.x⟩,⟨a.y,-b.y,-c.y⟩,⟨0,0,0⟩,⟨0,0,0⟩⟩:M3) ⟨a.z,-b.z,-c.z⟩) (by show bK _ _ (LV.av (aE ⟨a.z,-b.z,-c.z⟩)) (LV.isAgg (aE ⟨a.z,-b.z,-c.z⟩));rw [aX.av,aX.isAgg];exact iQ) ⟨LV.dT (aX.pure ⟨a.z,-b.z,-c.z⟩),LV.dG (aX.pure ⟨a.z,-b.z,-c.z⟩)⟩) ?_
  refine bg ?_
  refine bc ?_
  refine ay ?_
  refine dp (b:=_) rfl ai ?_
  refine bf ?_
  try refine aw ?_
  refine ah rfl (.dU rfl rfl rfl rfl (fj.av (mdM a b c)) (cr (fj.av (mdM a b c)) rfl) yZ) ?_
  try refine aw ?_
  refine bO rfl (.stE (e:=ez) (l:=[(⟨⟨0,0,0⟩,⟨0,0,0⟩,⟨0,0,0⟩,⟨0,0,0⟩⟩:M3)]) (a:=mdM a b c) rfl rfl rfl aW) ?_
  refine aQ ?_
  exact fi [] rfl rfl rfl (fj.av _) (cr (fj.av _) rfl) yZ (.pure (fj.pure _))
theorem aHW {P:Program} {H:b9} {ρ:Operand->LV} {T:TypeId} [z:ZI P T (.agg [.agg [aE ⟨0,0,0⟩,aE ⟨0,0,0⟩,aE ⟨0,0,0⟩],aE ⟨0,0,0⟩])] [s:SI P T [(27,true),(9,true)]] :
  aN P H ρ (.build T #[]) (ez ⟨⟨0,0,0⟩,⟨0,0,0⟩,⟨0,0,0⟩,⟨0,0,0⟩⟩):=by
 have:=aN.bd (H:=H) (ρ:=ρ) (ps:=#[]) (z:=z) (s:=s) (by simp [lay,LV.av,cL,aX.av,aX.isAgg,s6]) (by
  intro q hq
  simp at hq)
 simp only [jK,List.map,List.foldl] at this
 exact this
def M30:M3:=⟨⟨0,0,0⟩,⟨0,0,0⟩,⟨0,0,0⟩,⟨0,0,0⟩⟩
def vlM (m:M3):Rat:=cJ m.a (jj m.b m.c)
def gG (m:M3):M3:=if vlM m=0 then M30 else ivM m
def ivE (m:M3):Int:=if vlM m=0 then 9 else 0
open aiA in
theorem aEh (m:M3) (R:Nat) (hR:R<=40000000) (hm:xi R m) (hv:cJ m.a (jj m.b m.c)=0):ax ak 115 [ez m] (.a9 [ez M30,iL 9]):=by
 have iS:=hm
 obtain⟨jI,fc,rI,pO⟩:=hm
 have lH:=z7 fc rI
 have hV:=aul m R J iS
 have gk:rl 1=1:=rfl
 have hrv:=acm jI lH
 have hQ:ax ak 180 [aa 1,aa (cJ m.a (jj m.b m.c))] (.a9 [aa (g8 m.a m.b m.c),iL 3]):=by
  have:=sH 1 (cJ m.a (jj m.b m.c)) J
  rwa [if_pos hv] at this
 have xR:ax ak 187 [iL 1] (aa 1):=rZ 1 ai ai
 refine aR Tryz.func115 (ht:=(iF (fj.pure _) rfl)) ?_
 refine bg ?_
 refine eZ 8 [6] al ?_
 refine cp aO (xR) ?_
 refine ah rfl (.dU rfl rfl rfl rfl (fj.av m) (cr (fj.av m) rfl) yZ) ?_
 refine bM rfl (.cons (.pure (fj.pure m)) .nil) hV ?_
 refine cp au (hQ) ?_
 refine eQ ?_
 refine bI (b:=_) rfl (rfl) ?_
 refine aH ?_
 refine ah rfl aHW ?_
 refine bO rfl (.stE (e:=ez) (l:=[⟨⟨0,0,0⟩,⟨0,0,0⟩,⟨0,0,0⟩,⟨0,0,0⟩⟩]) (a:=M30) rfl rfl rfl aW) ?_
 refine a7 ?_
 exact qE [] rfl rfl rfl (fj.av M30) (cr (fj.av M30) rfl) yZ (.pure (fj.pure M30)) rfl (.pure rfl)
theorem aDB (m:M3) (R:Nat) (hR:R<=40000000) (hm:xi R m):ax ak 115 [ez m] (.a9 [ez (gG m),iL (ivE m)]):=by
 by_cases hv:vlM m=0
 ·unfold gG ivE
  rw [if_pos hv,if_pos hv]
  exact aEh m R hR hm hv
 ·unfold gG ivE
  rw [if_neg hv,if_neg hv]
  exact aIA m R hR hm hv
theorem rS (p q:List V3):LV.pure (.agg [.list 9 (p.map aE),.list 9 (q.map aE)])=true:=by simp only [LV.pure,aK,aP aX,acb]
open xW in
theorem ahk (p:V3) (l:List V3):ax ak 119 [aE p,.ba (.list 9 (l.map aE))] (.agg [.list 9 ([p].map aE),.list 9 (l.map aE)]):=by
 have jf:=cd aX 9 l
 refine aR Tryz.func119 (ht:=(fun g=>LV.cQ g _ (rS _ _))) ?_
 refine bh ?_
 refine ah rfl (.l9 rfl jf rfl rfl) ?_
 refine a7 ?_
 exact fi [5] rfl rfl rfl rfl (cr rfl rfl) ac2 (.agg (.cons (dH (l:=[p]) aX rfl rfl aW) (.cons (.pure jf) .nil)))
namespace aqE
theorem aw {p q:Prop} (k:q) (e:p=q:=by simp only [e1,e2,e3,e4,p1,p2,p3,q1,q2,q3,l1,t0,t1,r1,r2,r3,r4,Nat.zero_add,Nat.reduceMul,Nat.reduceAdd,b1,b2,b3,b4,b5,b6,i1,i2,i3,i4,i5,i6,Nat.reduceBEq,hS.kill,List.getD_cons_zero,List.getD_cons_succ,List.set_cons_zero,List.set_cons_succ,Nat.reduceEqDiff,reduceIte,if_true,if_false,cB,dB,aG aX,aG bz,aG an,cA,cC,LV.kill,bH];exact rfl):p:=e.mpr k
end aqE
open aqE in
theorem aaR (f:Nat) (t:Rat) (S:LV) (hS:oc S 5) (l:List V3) (d:Nat) (k:List Rat) (po:List ar) (h0:0<po.length) (hl:po.length<=1000) (hf:ax ak f [S,aa t] (.a9 [.agg [ae d,.list 3 (k.map aa),.list 12 (po.map bm)],iL 0])):ax ak 120 [.bQ f [],aa t,.ba S,.ba (.list 9 (l.map aE))] (.agg [.list 9 (l.map aE),.list 9 ((po.map ar.p).map aE)]):=by
 have jf:=cd aX 9 l
 refine aR Tryz.func120 (ht:=(fun g=>LV.cQ g _ (rS _ _))) ?_
 refine bB ?_
 refine ah rfl (.l9 rfl hS.pu hS.cs hS.ag) ?_
 refine ao ?_
 try refine aw ?_
 refine eN [] rfl rfl (.bQ (f:=f) (cap:=[]) (args:=[S,aa t]) rfl (.cons (.pure hS.pu) (.cons (.pure (an.pure _)) .nil)) ⟨rfl,by simp⟩ hf.1 ai (fun _ h=>by cases h)) (hf.2 _) ?_
 refine bB ?_
 refine aY 5 al ?_
 refine ah rfl (.l9 rfl jf rfl rfl) ?_
 refine aH ?_
 refine cp aO (ajq po h0 hl) ?_
 refine a7 ?_
 exact fi [] rfl rfl rfl rfl (cr rfl rfl) ac2 (.pure (rS _ _))
def o8 (A P Q:jt) (m:M3) (a b:V3) (pc ps u0 u1 v0 v1:List V3):Nat :=
 if jr (d3S A (pj P) (pj Q)) 0 then 0 else if vlM m=0 then 2 else
  if nk (fC (gG m).a [a] ps) (fC (gG m).a [b] ps)=true/\nk (fC (gG m).b pc u0) (fC (gG m).b pc u1)=true/\nk (fC (gG m).c pc v0) (fC (gG m).c pc v1)=true then 3 else 2
theorem abm (n:Nat):(ae n).pure=true:=rfl
theorem aIJ {m:M3} {R:Nat} (hm:xi R m) (hR:R<=3000000):cP 90000000 (gG m).a/\cP 90000000 (gG m).b/\cP 90000000 (gG m).c:=by
 have lE:rl 0=1:=rfl
 have gk:rl 1=1:=rfl
 unfold gG
 split
 ·have h0:cP 90000000 ⟨0,0,0⟩:=⟨by show rl 0<=_;omega,by show rl 0<=_;omega,by show rl 0<=_;omega⟩
  exact⟨h0,h0,h0⟩
 ·obtain⟨jI,fc,rI,pO⟩:=hm
  have lH:=z7 fc rI
  have ji:=z7 rI jI
  have qa:=z7 jI fc
  have hrv:=acm jI lH
  have hrf:rl (g8 m.a m.b m.c)<=20*R+30:=by
   have:=pH 1 (cJ m.a (jj m.b m.c))
   unfold g8
   omega
  have mX:∀ q:V3,cP (4*R+5) q->cP 90000000 (kK (g8 m.a m.b m.c) q):=fun q ⟨q1',q2',q3'⟩=>by
   have e1x:=cM (g8 m.a m.b m.c) q.x
   have e2x:=cM (g8 m.a m.b m.c) q.y
   have e3x:=cM (g8 m.a m.b m.c) q.z
   exact⟨by show rl (g8 m.a m.b m.c*q.x)<=_;omega,by show rl (g8 m.a m.b m.c*q.y)<=_;omega,by show rl (g8 m.a m.b m.c*q.z)<=_;omega⟩
  exact⟨⟨(mX _ lH).1,(mX _ ji).1,(mX _ qa).1⟩,⟨(mX _ lH).2.1,(mX _ ji).2.1,(mX _ qa).2.1⟩,⟨(mX _ lH).2.2,(mX _ ji).2.2,(mX _ qa).2.2⟩⟩
theorem acM (p q r s:List V3):LV.pure (.agg [.agg [.list 9 (p.map aE),.list 9 (q.map aE)],.agg [.list 9 (r.map aE),.list 9 (s.map aE)]])=true:=by simp only [LV.pure,aK,aP aX,acb]
namespace av4
theorem aw {p q:Prop} (k:q) (e:p=q:=by simp only [e1,e2,e3,e4,p1,p2,p3,q1,q2,q3,l1,t0,t1,r1,r2,r3,r4,Nat.zero_add,Nat.reduceMul,Nat.reduceAdd,b1,b2,b3,b4,b5,b6,i1,i2,i3,i4,i5,i6,Nat.reduceBEq,ai4,aG fj,p9,zh,aG aX,xtk,xap,List.getD_cons_zero,List.getD_cons_succ,List.set_cons_zero,List.set_cons_succ,Nat.reduceEqDiff,reduceIte,if_true,if_false,cB,dB,aG aX,aG bz,aG an,cA,cC,LV.kill,bH];exact rfl):p:=e.mpr k
end av4
open av4 in
theorem aGq (dc U V:Nat) (kc kU kV:List Rat) (cW cT db:List ar) (A P Q:jt) (R:Nat) (hR:R<=3000000) (hA:gI R A) (hP:gI R P) (hQ:gI R Q) (m:M3) (hm:xi R m) (a b:V3) (u v:Sp) (te:0<cW.length) (hc9:cW.length<=1000) (h00:0<cT.length) (h09:cT.length<=100) (sC:0<db.length) (h19:db.length<=100) (hqc:∀ q∈(cW.map ar.p),cP 90000000 q) (nx:∀ q∈(cT.map ar.p++db.map ar.p),cP 90000000 q) (hqa:∀ q∈[a],cP 90000000 q) (xy:∀ q∈[b],cP 90000000 q) (anq:Nat) (akb:List Rat) (jN:List ar) (agM:0<jN.length/\jN.length<=1000) (aAZ:∀ q∈(jN.map ar.p),cP 90000000 q) (aj1:Nat) (ant:List Rat) (jZ:List ar) (aju:0<jZ.length/\jZ.length<=1000) (azZ:∀ q∈(jZ.map ar.p),cP 90000000 q) (akk:Nat) (amE:List Rat) (jU:List ar) (ajf:0<jU.length/\jU.length<=1000) (az8:∀ q∈(jU.map ar.p),cP 90000000 q) (ale:Nat) (akB:List Rat) (kg:List ar) (ag0:0<kg.length/\kg.length<=1000) (aHa:∀ q∈(kg.map ar.p),cP 90000000 q) (hSs:ax ak 89 [.agg [ae U,ae V,.list 3 (kU.map aa),.list 3 (kV.map aa),.list 1 ([cT,db].map a5)]] (.a9 [fY P,fY Q])) (hSc:ax ak 114 [.agg [ae dc,.list 3 (kc.map aa),.list 12 (cW.map bm)]] (fY A)) (hMd:ax ak 116 [.agg [ae dc,.list 3 (kc.map aa),.list 12 (cW.map bm)],.agg [ae U,ae V,.list 3 (kU.map aa),.list 3 (kV.map aa),.list 1 ([cT,db].map a5)]] (ez m)) (hEn:ax ak 118 [.agg [ae dc,.list 3 (kc.map aa),.list 12 (cW.map bm)]] (.a9 [aE a,aE b])) (hDo:ax ak 36 [.agg [ae U,ae V,.list 3 (kU.map aa),.list 3 (kV.map aa),.list 1 ([cT,db].map a5)]] (.a9 [aD u,aD v])) (asc:ax ak 121 [.agg [ae U,ae V,.list 3 (kU.map aa),.list 3 (kV.map aa),.list 1 ([cT,db].map a5)],aa u.1] (.a9 [.agg [ae anq,.list 3 (akb.map aa),.list 12 (jN.map bm)],iL 0])) (aqU:ax ak 121 [.agg [ae U,ae V,.list 3 (kU.map aa),.list 3 (kV.map aa),.list 1 ([cT,db].map a5)],aa u.2] (.a9 [.agg [ae aj1,.list 3 (ant.map aa),.list 12 (jZ.map bm)],iL 0])) (atY:ax ak 122 [.agg [ae U,ae V,.list 3 (kU.map aa),.list 3 (kV.map aa),.list 1 ([cT,db].map a5)],aa v.1] (.a9 [.agg [ae akk,.list 3 (amE.map aa),.list 12 (jU.map bm)],iL 0])) (arJ:ax ak 122 [.agg [ae U,ae V,.list 3 (kU.map aa),.list 3 (kV.map aa),.list 1 ([cT,db].map a5)],aa v.2] (.a9 [.agg [ae ale,.list 3 (akB.map aa),.list 12 (kg.map bm)],iL 0])):ax ak 56 [.agg [ae dc,.list 3 (kc.map aa),.list 12 (cW.map bm)],.agg [ae U,ae V,.list 3 (kU.map aa),.list 3 (kV.map aa),.list 1 ([cT,db].map a5)]] (ae (o8 A P Q m a b (cW.map ar.p) (cT.map ar.p++db.map ar.p) (jN.map ar.p) (jZ.map ar.p) (jU.map ar.p) (kg.map ar.p))):=by
 have hCo:oc (.agg [ae dc,.list 3 (kc.map aa),.list 12 (cW.map bm)]) 3:=⟨rfl,rfl,by simp [LV.pure,aK,aP an,aP bz]⟩
 have ns:oc (.agg [ae U,ae V,.list 3 (kU.map aa),.list 3 (kV.map aa),.list 1 ([cT,db].map a5)]) 5:=⟨rfl,rfl,by simp [LV.pure,aK,aP an,a5,aP bz]⟩
 have hcA:aK ([.ba (.list 9 ((cT.map ar.p++db.map ar.p).map aE))]:List LV)=true:=by simp only [aK,LV.pure,aP aX,acb]
 have anr:∀ x∈([.ba (.list 9 ((cT.map ar.p++db.map ar.p).map aE))]:List LV),x.av=1/\x.isAgg=false:=fun x hx=>by rw [fP.1 hx];exact⟨rfl,rfl⟩
 have hcI:aK ([.ba (.agg [ae U,ae V,.list 3 (kU.map aa),.list 3 (kV.map aa),.list 1 ([cT,db].map a5)]),.ba (.list 9 ((cW.map ar.p).map aE))]:List LV)=true:=by
  have h1:=ns.pu
  simp only [aK,LV.pure,aP aX,acb] at h1 ⊢
  simpa using h1
 have afu:∀ x∈([.ba (.agg [ae U,ae V,.list 3 (kU.map aa),.list 3 (kV.map aa),.list 1 ([cT,db].map a5)]),.ba (.list 9 ((cW.map ar.p).map aE))]:List LV),x.av=1/\x.isAgg=false:=fun x hx=>by
  simp only [ff,iq,or_false] at hx
  rcases hx with e | e<;>rw [e]<;>exact⟨rfl,rfl⟩
 have aHI:=cd bz 12 cT
 have aCj:=cd bz 12 db
 have aAu:=cd aX 9 (cW.map ar.p)
 have aF9:=cd aX 9 (cT.map ar.p++db.map ar.p)
 have hnP:=apV hP
 have hnQ:=apV hQ
 have mD:=aI2 hA hnP hnQ
 have hM1:=atm P R J hP
 have hM2:=atm Q R J hQ
 have hDT:=aGN A (pj P) (pj Q) R J hA hnP hnQ
 have hHs:=adP (d3S A (pj P) (pj Q)) 0 (by have:=mD.1;have:rl 0=1:=rfl;show rl (d3S A (pj P) (pj Q)).1+_<=_;omega) (by have:=mD.2;have:rl 0=1:=rfl;show _+rl (d3S A (pj P) (pj Q)).2<=_;omega)
 have aAY:=aDB m R J hm
 have hiv:cP 90000000 (gG m).a/\cP 90000000 (gG m).b/\cP 90000000 (gG m).c:=aIJ hm J
 have hP1:=ajq cT h00 J
 have hP2:=ajq db sC J
 have hP3:=ajq cW te hc9
 have xap:(cT.map ar.p).map aE++(db.map ar.p).map aE=(cT.map ar.p++db.map ar.p).map aE:=aac.symm
 have xtk:((cT.map ar.p).map aE).take cT.length=(cT.map ar.p).map aE:=cE aW
 refine aR Tryz.func56 (ht:=(fun g=>LV.cQ g _ (abm _))) ?_
 refine bB ?_
 try refine aw ?_
 refine ah rfl anU ?_
 refine bM rfl (.cons (.pure ns.pu) (.nil)) hSs ?_
 refine bC ?_
 refine aY 10 al ?_
 try refine aw ?_
 refine ah rfl alK ?_
 refine bM rfl (.cons (.pure hCo.pu) (.nil)) hSc ?_
 try refine aw ?_
 refine ao ?_
 refine bM rfl (.cons (.pure (og.pure _)) .nil) hM1 ?_
 try refine aw ?_
 refine ao ?_
 refine bM rfl (.cons (.pure (og.pure _)) .nil) hM2 ?_
 try refine aw ?_
 refine bM rfl (.cons (.pure (og.pure _)) (.cons (.pure (og.pure _)) (.cons (.pure (og.pure _)) .nil))) (aG1 A (pj P) (pj Q)) ?_
 refine bM rfl (.cons (.pure (adO _ _ _)) .nil) (hDT) ?_
 refine ao ?_
 refine cp au (hHs) ?_
 refine aH ?_
 refine aL rfl ?_ ?_<;>intro wx uK
 ·have wA:(o8 A P Q m a b (cW.map ar.p) (cT.map ar.p++db.map ar.p) (jN.map ar.p) (jZ.map ar.p) (jU.map ar.p) (kg.map ar.p))=0:=if_pos (by simpa using uK)
  refine bf ?_
  refine dO (x:=ae (o8 A P Q m a b (cW.map ar.p) (cT.map ar.p++db.map ar.p) (jN.map ar.p) (jZ.map ar.p) (jU.map ar.p) (kg.map ar.p))) ?_ ?_
  ·rw [wA]
   rfl
  ·exact .pure (abm _)
 ·have my:jr (d3S A (pj P) (pj Q)) 0=false:=by simpa using uK
  refine aB ?_
  try refine aw ?_
  refine ah rfl alK ?_
  refine ah rfl anU ?_
  refine bM rfl (.cons (.pure hCo.pu) (.cons (.pure ns.pu) (.nil))) hMd ?_
  refine bM rfl (.cons (.pure (fj.pure _)) .nil) aAY ?_
  refine aB ?_
  try refine aw ?_
  refine bO rfl (.stE (e:=ez) (l:=[⟨⟨0,0,0⟩,⟨0,0,0⟩,⟨0,0,0⟩,⟨0,0,0⟩⟩]) (a:=gG m) rfl rfl rfl aW) ?_
  refine bh ?_
  refine aL rfl ?_ ?_<;>intro avf h44
  ·have hvz:vlM m=0:=by
    refine aAM fun e=>?_
    rw [show ivE m=0 from if_neg e] at h44
    simp at h44
   have wA:(o8 A P Q m a b (cW.map ar.p) (cT.map ar.p++db.map ar.p) (jN.map ar.p) (jZ.map ar.p) (jU.map ar.p) (kg.map ar.p))=2:=by unfold o8;rw [if_neg (by rw [my];decide),if_pos hvz]
   refine bf ?_
   refine dO (x:=ae (o8 A P Q m a b (cW.map ar.p) (cT.map ar.p++db.map ar.p) (jN.map ar.p) (jZ.map ar.p) (jU.map ar.p) (kg.map ar.p))) ?_ ?_
   ·rw [wA]
    rfl
   ·exact .pure (abm _)
  ·have hvn:vlM m≠0:=fun e=>by
    rw [show ivE m=9 from if_pos e] at h44
    simp at h44
   have yR:(o8 A P Q m a b (cW.map ar.p) (cT.map ar.p++db.map ar.p) (jN.map ar.p) (jZ.map ar.p) (jU.map ar.p) (kg.map ar.p))=if (nk (fC (gG m).a [a] (cT.map ar.p++db.map ar.p)) (fC (gG m).a [b] (cT.map ar.p++db.map ar.p)))=true/\(nk (fC (gG m).b (cW.map ar.p) (jN.map ar.p)) (fC (gG m).b (cW.map ar.p) (jZ.map ar.p)))=true/\(nk (fC (gG m).c (cW.map ar.p) (jU.map ar.p)) (fC (gG m).c (cW.map ar.p) (kg.map ar.p)))=true then 3 else 2:=by unfold o8;rw [if_neg (by rw [my];decide),if_neg hvn]
   refine ay ?_
   refine cp aO (hP3) ?_
   refine nc ?_
   refine bc ?_
   refine ay ?_
   refine bI (b:=_) rfl (rfl) ?_
   refine ay ?_
   refine ah rfl (.gD (n:=0) (r:=.list 12 (cT.map bm)) rfl qb uT rfl ai rfl rfl) ?_
   refine ah rfl (.l9 rfl aHI rfl rfl) ?_
   refine aQ ?_
   refine aY 3 al ?_
   refine aH ?_
   refine cp aO (hP1) ?_
   try refine aw ?_
   refine bO rfl (.xG (d:=58) (news:=(cT.map ar.p).map aE) rfl rfl ox ox Z54 iQ cs B54 (.inr rfl) bq bq bq ai) ?_
   try refine aw ?_
   refine bB ?_
   refine bc ?_
   refine ay ?_
   refine bI (b:=_) rfl (rfl) ?_
   refine ay ?_
   refine ah rfl (.gD (n:=1) (r:=.list 12 (db.map bm)) rfl qb uT rfl ai rfl rfl) ?_
   refine ah rfl (.l9 rfl aCj rfl rfl) ?_
   refine aQ ?_
   refine aY 3 al ?_
   refine aH ?_
   refine cp aO (hP2) ?_
   try refine aw ?_
   refine bO rfl (.fV (d:=58) (news:=(db.map ar.p).map aE) rfl rfl rfl rfl aW (.inl rfl) ai ox ox Z54 iQ cs B54 (.inr (.inl rfl)) bq bq ai) ?_
   try refine aw ?_
   refine bB ?_
   refine bc ?_
   refine ay ?_
   refine dp (b:=_) rfl (rfl) ?_
   refine bf ?_
   try refine aw ?_
   refine ah rfl alK ?_
   refine bM rfl (.cons (.pure hCo.pu) (.nil)) hEn ?_
   refine bh ?_
   refine bR (az.aq2 10 [58] rfl rfl (dH (l:=cT.map ar.p++db.map ar.p) aX rfl rfl aW)) ?_
   try refine aw ?_
   refine eN [10] rfl rfl (.mk (caps:=[.ba (.list 9 ((cT.map ar.p++db.map ar.p).map aE))]) (.cons (.aF (n:=1) (ag:=false) rfl rfl rfl rfl rfl aF9 rfl) .nil) anr) rfl ?_
   refine a7 ?_
   try refine aw ?_
   refine ah rfl anU ?_
   refine bM rfl (.cons (.pure ns.pu) (.nil)) hDo ?_
   refine bC ?_
   try refine aw ?_
   refine eN [3,9] rfl rfl (.mk (caps:=[.ba (.agg [ae U,ae V,.list 3 (kU.map aa),.list 3 (kV.map aa),.list 1 ([cT,db].map a5)]),.ba (.list 9 ((cW.map ar.p).map aE))]) (.cons (.aF rfl rfl rfl ns.cs (cr ns.cs ns.ag) ns.pu rfl) (.cons (.aF (n:=1) (ag:=false) rfl rfl rfl rfl rfl aAu rfl) .nil)) afu) rfl ?_
   refine a7 ?_
   refine aY 27 al ?_
   try refine aw ?_
   refine aH ?_
   try refine aw ?_
   refine eN [] rfl rfl (.bQ (f:=119) (cap:=[.ba (.list 9 ((cT.map ar.p++db.map ar.p).map aE))]) (args:=[aE a]) rfl (.cons (.pure (aX.pure _)) .nil) ⟨hcA,anr⟩ (ahk a (cT.map ar.p++db.map ar.p)).1 ai (fun _ h=>by cases h)) ((ahk a (cT.map ar.p++db.map ar.p)).2 _) ?_
   refine aH ?_
   try refine aw ?_
   refine eN [] rfl rfl (.bQ (f:=119) (cap:=[.ba (.list 9 ((cT.map ar.p++db.map ar.p).map aE))]) (args:=[aE b]) rfl (.cons (.pure (aX.pure _)) .nil) ⟨hcA,anr⟩ (ahk b (cT.map ar.p++db.map ar.p)).1 ai (fun _ h=>by cases h)) ((ahk b (cT.map ar.p++db.map ar.p)).2 _) ?_
   try refine aw ?_
   refine ah rfl (uW (v0:=.agg [.list 9 ([a].map aE),.list 9 ((cT.map ar.p++db.map ar.p).map aE)]) (v1:=.agg [.list 9 ([b].map aE),.list 9 ((cT.map ar.p++db.map ar.p).map aE)]) ad1 ac2 agA lz rfl rfl lz lz (rS _ _) (rS _ _)) ?_
   refine aQ ?_
   try refine aw ?_
   refine eN [] rfl rfl (.bQ (f:=120) (cap:=[.ba (.agg [ae U,ae V,.list 3 (kU.map aa),.list 3 (kV.map aa),.list 1 ([cT,db].map a5)]),.ba (.list 9 ((cW.map ar.p).map aE))]) (args:=[.bQ 121 [],aa u.1]) rfl (.cons (.pure rfl) (.cons (.pure (an.pure _)) .nil)) ⟨hcI,afu⟩ (aaR 121 u.1 (.agg [ae U,ae V,.list 3 (kU.map aa),.list 3 (kV.map aa),.list 1 ([cT,db].map a5)]) ns (cW.map ar.p) anq akb jN agM.1 agM.2 asc).1 ai (fun _ h=>by cases h)) ((aaR 121 u.1 (.agg [ae U,ae V,.list 3 (kU.map aa),.list 3 (kV.map aa),.list 1 ([cT,db].map a5)]) ns (cW.map ar.p) anq akb jN agM.1 agM.2 asc).2 _) ?_
   refine aQ ?_
   try refine aw ?_
   refine eN [] rfl rfl (.bQ (f:=120) (cap:=[.ba (.agg [ae U,ae V,.list 3 (kU.map aa),.list 3 (kV.map aa),.list 1 ([cT,db].map a5)]),.ba (.list 9 ((cW.map ar.p).map aE))]) (args:=[.bQ 121 [],aa u.2]) rfl (.cons (.pure rfl) (.cons (.pure (an.pure _)) .nil)) ⟨hcI,afu⟩ (aaR 121 u.2 (.agg [ae U,ae V,.list 3 (kU.map aa),.list 3 (kV.map aa),.list 1 ([cT,db].map a5)]) ns (cW.map ar.p) aj1 ant jZ aju.1 aju.2 aqU).1 ai (fun _ h=>by cases h)) ((aaR 121 u.2 (.agg [ae U,ae V,.list 3 (kU.map aa),.list 3 (kV.map aa),.list 1 ([cT,db].map a5)]) ns (cW.map ar.p) aj1 ant jZ aju.1 aju.2 aqU).2 _) ?_
   try refine aw ?_
   refine ah rfl (uW (v0:=.agg [.list 9 ((cW.map ar.p).map aE),.list 9 ((jN.map ar.p).map aE)]) (v1:=.agg [.list 9 ((cW.map ar.p).map aE),.list 9 ((jZ.map ar.p).map aE)]) ad1 ac2 agA lz rfl rfl lz lz (rS _ _) (rS _ _)) ?_
   refine aQ ?_
   try refine aw ?_
   refine eN [] rfl rfl (.bQ (f:=120) (cap:=[.ba (.agg [ae U,ae V,.list 3 (kU.map aa),.list 3 (kV.map aa),.list 1 ([cT,db].map a5)]),.ba (.list 9 ((cW.map ar.p).map aE))]) (args:=[.bQ 122 [],aa v.1]) rfl (.cons (.pure rfl) (.cons (.pure (an.pure _)) .nil)) ⟨hcI,afu⟩ (aaR 122 v.1 (.agg [ae U,ae V,.list 3 (kU.map aa),.list 3 (kV.map aa),.list 1 ([cT,db].map a5)]) ns (cW.map ar.p) akk amE jU ajf.1 ajf.2 atY).1 ai (fun _ h=>by cases h)) ((aaR 122 v.1 (.agg [ae U,ae V,.list 3 (kU.map aa),.list 3 (kV.map aa),.list 1 ([cT,db].map a5)]) ns (cW.map ar.p) akk amE jU ajf.1 ajf.2 atY).2 _) ?_
   refine aQ ?_
   try refine aw ?_
   refine eN [] rfl rfl (.bQ (f:=120) (cap:=[.ba (.agg [ae U,ae V,.list 3 (kU.map aa),.list 3 (kV.map aa),.list 1 ([cT,db].map a5)]),.ba (.list 9 ((cW.map ar.p).map aE))]) (args:=[.bQ 122 [],aa v.2]) rfl (.cons (.pure rfl) (.cons (.pure (an.pure _)) .nil)) ⟨hcI,afu⟩ (aaR 122 v.2 (.agg [ae U,ae V,.list 3 (kU.map aa),.list 3 (kV.map aa),.list 1 ([cT,db].map a5)]) ns (cW.map ar.p) ale akB kg ag0.1 ag0.2 arJ).1 ai (fun _ h=>by cases h)) ((aaR 122 v.2 (.agg [ae U,ae V,.list 3 (kU.map aa),.list 3 (kV.map aa),.list 1 ([cT,db].map a5)]) ns (cW.map ar.p) ale akB kg ag0.1 ag0.2 arJ).2 _) ?_
   try refine aw ?_
   refine ah rfl (uW (v0:=.agg [.list 9 ((cW.map ar.p).map aE),.list 9 ((jU.map ar.p).map aE)]) (v1:=.agg [.list 9 ((cW.map ar.p).map aE),.list 9 ((kg.map ar.p).map aE)]) ad1 ac2 agA lz rfl rfl lz lz (rS _ _) (rS _ _)) ?_
   try refine aw ?_
   refine ah rfl (ajb (v0:=.agg [.agg [.list 9 ([a].map aE),.list 9 ((cT.map ar.p++db.map ar.p).map aE)],.agg [.list 9 ([b].map aE),.list 9 ((cT.map ar.p++db.map ar.p).map aE)]]) (v1:=.agg [.agg [.list 9 ((cW.map ar.p).map aE),.list 9 ((jN.map ar.p).map aE)],.agg [.list 9 ((cW.map ar.p).map aE),.list 9 ((jZ.map ar.p).map aE)]]) (v2:=.agg [.agg [.list 9 ((cW.map ar.p).map aE),.list 9 ((jU.map ar.p).map aE)],.agg [.list 9 ((cW.map ar.p).map aE),.list 9 ((kg.map ar.p).map aE)]]) Tryz.underlying204 aqd aGC lz rfl rfl rfl lz lz lz (acM _ _ _ _) (acM _ _ _ _) (acM _ _ _ _)) ?_
   refine aB ?_
   refine bc ?_
   refine ay ?_
   refine bI (b:=_) rfl ai ?_
   refine bf ?_
   try refine aw ?_
   refine ah rfl (.ixa (fs:=[.agg [.agg [.list 9 ([a].map aE),.list 9 ((cT.map ar.p++db.map ar.p).map aE)],.agg [.list 9 ([b].map aE),.list 9 ((cT.map ar.p++db.map ar.p).map aE)]],.agg [.agg [.list 9 ((cW.map ar.p).map aE),.list 9 ((jN.map ar.p).map aE)],.agg [.list 9 ((cW.map ar.p).map aE),.list 9 ((jZ.map ar.p).map aE)]],.agg [.agg [.list 9 ((cW.map ar.p).map aE),.list 9 ((jU.map ar.p).map aE)],.agg [.list 9 ((cW.map ar.p).map aE),.list 9 ((kg.map ar.p).map aE)]]]) rfl rfl ai rfl (acM _ _ _ _) rfl) ?_
   refine aH ?_
   try refine aw ?_
   refine aB ?_
   refine aY 10 al ?_
   try refine aw ?_
   refine aQ ?_
   try refine aw ?_
   refine ah rfl (.dU rfl rfl rfl rfl (fj.av _) (ajh _) iQ) ?_
   refine ao ?_
   try refine aw ?_
   refine aH ?_
   try refine aw ?_
   refine ao ?_
   try refine aw ?_
   refine bM rfl (.cons (.pure (aX.pure _)) (.cons (.pure (rS [a] (cT.map ar.p++db.map ar.p))) (.cons (.pure (rS [b] (cT.map ar.p++db.map ar.p))) .nil))) (amV (gG m).a 90000000 J hiv.1 [a] (cT.map ar.p++db.map ar.p) [b] (cT.map ar.p++db.map ar.p) aW aW hqa bq bq nx aW aW xy bq bq nx) ?_
   refine aQ ?_
   refine aL rfl ?_ ?_<;>intro aq1 aa7
   ·have hz0:¬(nk (fC (gG m).a [a] (cT.map ar.p++db.map ar.p)) (fC (gG m).a [b] (cT.map ar.p++db.map ar.p)))=true:=by simpa using aa7
    have wA:(o8 A P Q m a b (cW.map ar.p) (cT.map ar.p++db.map ar.p) (jN.map ar.p) (jZ.map ar.p) (jU.map ar.p) (kg.map ar.p))=2:=yR.trans (if_neg fun e=>hz0 e.1)
    refine bC ?_
    refine dO (x:=ae (o8 A P Q m a b (cW.map ar.p) (cT.map ar.p++db.map ar.p) (jN.map ar.p) (jZ.map ar.p) (jU.map ar.p) (kg.map ar.p))) ?_ ?_
    ·rw [wA]
     rfl
    ·exact .pure (abm _)
   ·have ho0:(nk (fC (gG m).a [a] (cT.map ar.p++db.map ar.p)) (fC (gG m).a [b] (cT.map ar.p++db.map ar.p)))=true:=by simpa using aa7
    refine aQ ?_
    refine bR (az.kill _ 20) ?_
    refine aB ?_
    refine bc ?_
    refine ay ?_
    refine bI (b:=_) rfl ai ?_
    refine bf ?_
    try refine aw ?_
    refine ah rfl (.ixa (fs:=[.agg [.agg [.list 9 ([a].map aE),.list 9 ((cT.map ar.p++db.map ar.p).map aE)],.agg [.list 9 ([b].map aE),.list 9 ((cT.map ar.p++db.map ar.p).map aE)]],.agg [.agg [.list 9 ((cW.map ar.p).map aE),.list 9 ((jN.map ar.p).map aE)],.agg [.list 9 ((cW.map ar.p).map aE),.list 9 ((jZ.map ar.p).map aE)]],.agg [.agg [.list 9 ((cW.map ar.p).map aE),.list 9 ((jU.map ar.p).map aE)],.agg [.list 9 ((cW.map ar.p).map aE),.list 9 ((kg.map ar.p).map aE)]]]) rfl rfl ai rfl (acM _ _ _ _) rfl) ?_
    refine aH ?_
    try refine aw ?_
    refine aB ?_
    refine aY 10 al ?_
    try refine aw ?_
    refine aQ ?_
    try refine aw ?_
    refine ah rfl (.dU rfl rfl rfl rfl (fj.av _) (aib _) iQ) ?_
    refine ao ?_
    try refine aw ?_
    refine aH ?_
    try refine aw ?_
    refine ao ?_
    try refine aw ?_
    refine bM rfl (.cons (.pure (aX.pure _)) (.cons (.pure (rS (cW.map ar.p) (jN.map ar.p))) (.cons (.pure (rS (cW.map ar.p) (jZ.map ar.p))) .nil))) (amV (gG m).b 90000000 J hiv.2.1 (cW.map ar.p) (jN.map ar.p) (cW.map ar.p) (jZ.map ar.p) jQ jQ hqc jQ jQ aAZ jQ jQ hqc jQ jQ azZ) ?_
    refine aQ ?_
    refine aL rfl ?_ ?_<;>intro aq1 aa7
    ·have qG:¬(nk (fC (gG m).b (cW.map ar.p) (jN.map ar.p)) (fC (gG m).b (cW.map ar.p) (jZ.map ar.p)))=true:=by simpa using aa7
     have wA:(o8 A P Q m a b (cW.map ar.p) (cT.map ar.p++db.map ar.p) (jN.map ar.p) (jZ.map ar.p) (jU.map ar.p) (kg.map ar.p))=2:=yR.trans (if_neg fun e=>qG e.2.1)
     refine bC ?_
     refine dO (x:=ae (o8 A P Q m a b (cW.map ar.p) (cT.map ar.p++db.map ar.p) (jN.map ar.p) (jZ.map ar.p) (jU.map ar.p) (kg.map ar.p))) ?_ ?_
     ·rw [wA]
      rfl
     ·exact .pure (abm _)
    ·have ho1:(nk (fC (gG m).b (cW.map ar.p) (jN.map ar.p)) (fC (gG m).b (cW.map ar.p) (jZ.map ar.p)))=true:=by simpa using aa7
     refine aQ ?_
     refine bR (az.kill _ 20) ?_
     refine aB ?_
     refine bc ?_
     refine ay ?_
     refine bI (b:=_) rfl ai ?_
     refine bf ?_
     try refine aw ?_
     refine ah rfl (.ixa (fs:=[.agg [.agg [.list 9 ([a].map aE),.list 9 ((cT.map ar.p++db.map ar.p).map aE)],.agg [.list 9 ([b].map aE),.list 9 ((cT.map ar.p++db.map ar.p).map aE)]],.agg [.agg [.list 9 ((cW.map ar.p).map aE),.list 9 ((jN.map ar.p).map aE)],.agg [.list 9 ((cW.map ar.p).map aE),.list 9 ((jZ.map ar.p).map aE)]],.agg [.agg [.list 9 ((cW.map ar.p).map aE),.list 9 ((jU.map ar.p).map aE)],.agg [.list 9 ((cW.map ar.p).map aE),.list 9 ((kg.map ar.p).map aE)]]]) rfl rfl ai rfl (acM _ _ _ _) rfl) ?_
     refine aH ?_
     try refine aw ?_
     refine aB ?_
     refine aY 10 al ?_
     try refine aw ?_
     refine aQ ?_
     try refine aw ?_
     refine ah rfl (.dU rfl rfl rfl rfl (fj.av _) (ait _) iQ) ?_
     refine ao ?_
     try refine aw ?_
     refine aH ?_
     try refine aw ?_
     refine ao ?_
     try refine aw ?_
     refine bM rfl (.cons (.pure (aX.pure _)) (.cons (.pure (rS (cW.map ar.p) (jU.map ar.p))) (.cons (.pure (rS (cW.map ar.p) (kg.map ar.p))) .nil))) (amV (gG m).c 90000000 J hiv.2.2 (cW.map ar.p) (jU.map ar.p) (cW.map ar.p) (kg.map ar.p) jQ jQ hqc jQ jQ az8 jQ jQ hqc jQ jQ aHa) ?_
     refine aQ ?_
     refine aL rfl ?_ ?_<;>intro aq1 aa7
     ·have r7:¬(nk (fC (gG m).c (cW.map ar.p) (jU.map ar.p)) (fC (gG m).c (cW.map ar.p) (kg.map ar.p)))=true:=by simpa using aa7
      have wA:(o8 A P Q m a b (cW.map ar.p) (cT.map ar.p++db.map ar.p) (jN.map ar.p) (jZ.map ar.p) (jU.map ar.p) (kg.map ar.p))=2:=yR.trans (if_neg fun e=>r7 e.2.2)
      refine bC ?_
      refine dO (x:=ae (o8 A P Q m a b (cW.map ar.p) (cT.map ar.p++db.map ar.p) (jN.map ar.p) (jZ.map ar.p) (jU.map ar.p) (kg.map ar.p))) ?_ ?_
      ·rw [wA]
       rfl
      ·exact .pure (abm _)
     ·have ho2:(nk (fC (gG m).c (cW.map ar.p) (jU.map ar.p)) (fC (gG m).c (cW.map ar.p) (kg.map ar.p)))=true:=by simpa using aa7
      have wA:(o8 A P Q m a b (cW.map ar.p) (cT.map ar.p++db.map ar.p) (jN.map ar.p) (jZ.map ar.p) (jU.map ar.p) (kg.map ar.p))=3:=yR.trans (if_pos ⟨ho0,ho1,ho2⟩)
      refine aQ ?_
      refine bR (az.kill _ 20) ?_
      refine aB ?_
      refine bc ?_
      refine ay ?_
      refine dp (b:=_) rfl ai ?_
      refine bC ?_
      refine dO (x:=ae (o8 A P Q m a b (cW.map ar.p) (cT.map ar.p++db.map ar.p) (jN.map ar.p) (jZ.map ar.p) (jU.map ar.p) (kg.map ar.p))) ?_ ?_
      ·rw [wA]
       rfl
      ·exact .pure (abm _)
def jR (a b:Rat) (s:Sp):Sp:=(a+(b-a)*s.1,a+(b-a)*s.2)
theorem amL (x:Rat):x/2*2=x:=lD ai
theorem aEi (a b:Rat) (s:Sp):gq (jR a b s)=a+(b-a)*gq s:=by
 have h1:=amL (s.1+s.2)
 have h2:=amL (a+(b-a)*s.1+(a+(b-a)*s.2))
 show (a+(b-a)*s.1+(a+(b-a)*s.2))/2=a+(b-a)*((s.1+s.2)/2)
 grind
theorem ajc {a b:Rat} (h:a<b) (x:Rat):(a+(b-a)*x-a)/(b-a)=x:=by
 have hn:b-a≠0:=by grind
 rw [show a+(b-a)*x-a=x*(b-a) by grind,aan hn]
theorem aGs {a b x y:Rat} (h:a<b) (hx:x<y):a+(b-a)*x<a+(b-a)*y:=by
 have h1:0<b-a:=by grind
 have h2:0<y-x:=by grind
 have:=adr h1 h2
 grind
theorem ao9 {a b x y:Rat} (h:a<b) (hx:x<=y):a+(b-a)*x<=a+(b-a)*y:=by
 have h1:0<=b-a:=by grind
 have h2:0<=y-x:=by grind
 have:=aa5 h1 h2
 grind
theorem arY {a b x:Rat} (h:a<b) (h0:0<=x) (h1:x<=1):a<=a+(b-a)*x/\a+(b-a)*x<=b:=by
 have e1:=ao9 h h0
 have e2:=ao9 h h1
 constructor<;>grind
theorem akW {a b x:Rat} {A:Nat} (ha:Go.Lg.rl a<=A) (hb:Go.Lg.rl b<=A) (hx:Go.Lg.rl x<=1):Go.Lg.rl (a+(b-a)*x)<=3*A+5:=by
 have h1:=fD b a
 have h2:=cM (b-a) x
 have h3:=nZ a ((b-a)*x)
 omega
theorem awy {p:List Rat} {x:Rat} {R:Nat} (hp:∀ z∈p,rl z<=R) (hx:rl x<=4):rl (eB p x)<=(R+11)*2 ^ p.length:=by
 have h5:=fD 1 x
 rw [show rl 1=1 from rfl] at h5
 have kp:0<2 ^ p.length:=lC ai
 have h:∀ z∈p,(rl z+11)*2 ^ p.length<=(R+11)*2 ^ p.length:=fun z hz=>Nat.mul_le_mul_right _ (by have:=hp z hz;omega)
 have h1:1<=(R+11)*2 ^ p.length:=Nat.mul_pos J kp
 exact gQ h1 (fun z hz=>by have:=aks (C:=11) J p.length p rfl h z hz;omega) _
theorem aDK {po:List ar} {d:Nat} {W x:Rat} (h3:d<=3) (h:nJ po d 100) (hW:rl W<=200) (hx:rl x<=4):cP 3700000 (adD W po x):=by
 have h5:=h.d5
 have hd:=h.c.hd
 have w:=h.w
 have hw:=awy w.2 hx
 have gh:2 ^ (aZ po).length<=2 ^ 4:=oy ai J
 have hw2:rl (eB (aZ po) x)<=111*2 ^ 4:=bb hw (lr _ gh)
 have ht:∀ k,rl (eB (fZ po k) x)<=48802*2 ^ 6:=fun k=>by
  have t:=h.t k
  have h1:=awy t.2 hx
  have h2:2 ^ (fZ po k).length<=2 ^ 6:=oy ai J
  exact bb h1 (bb (lr _ h2) J)
 have m0:=cM (eB (aZ po) x) (eB (aZ po) x)
 have m1:=cM W (eB (aZ po) x*eB (aZ po) x)
 have m2:=pH 1 (W*(eB (aZ po) x*eB (aZ po) x))
 have r1:rl 1=1:=rfl
 have g:∀ k,rl (1/(W*(eB (aZ po) x*eB (aZ po) x))*eB (fZ po k) x)<=3700000:=fun k=>by
  have m3:=cM (1/(W*(eB (aZ po) x*eB (aZ po) x))) (eB (fZ po k) x)
  have:=ht k
  omega
 exact⟨g 0,g 1,g 2⟩
theorem aIk {po:List ar} {d:Nat} {W:Rat} (h:nJ po d 100) (hW:rl W<=200):gI 20000000 (ada W po):=by
 have g:∀ k,dg 20000000 (zB W po k):=fun k=>(ae9 (h.qu k) (show dg 200 (W,W) from ⟨hW,hW⟩)).le J
 exact⟨g 0,g 1,g 2⟩
theorem ajY {s:Sp} (h:s.1<s.2):(gq s-s.1)/(s.2-s.1)=1/2:=by
 have e:=amL (s.1+s.2)
 have hn:s.2-s.1≠0:=by grind
 have:gq s-s.1=1/2*(s.2-s.1):=by
  show (s.1+s.2)/2-s.1=_
  grind
 rw [this,aan hn]
structure PcT where
 d:Nat
 a:Rat
 b:Rat
 po:List ar
structure pcK (q:PcT) (Dp D N:Nat):Prop where
 d5:q.d<=3
 ab:q.a<q.b
 ra:rl q.a<=30
 rb:rl q.b<=30
 c:rT q.po q.d 1000
 cc:cvC q.po q.d D N
 D0:0<D
 hN:N*(2 ^ Dp) ^ q.d<4294967296 ^ 100
 hD:D*(2 ^ Dp) ^ q.d<4294967296 ^ 100
def kO (q:PcT) (s:Sp):List ar:=nS q.po ((s.1-q.a)/(q.b-q.a)) ((s.2-q.a)/(q.b-q.a))
def lkU (q:PcT) (s:Sp):V3:=adD (s.2-s.1) (kO q s) ((gq s-s.1)/(s.2-s.1))
structure sdK (q:PcT) (s:Sp):Prop where
 len:(kO q s).length=q.d+1
 cv:nJ (kO q s) q.d 100
 pos:∀ z∈(kO q s).map ar.p,cP 100 z
 box:gI 100 (xH ((kO q s).map ar.p))
 spd:gI 20000000 (ada (s.2-s.1) (kO q s))
 tan:cP 3700000 (lkU q s)
 cut:ax ak 54 [.agg [ae q.d,.list 3 ((aA q.d q.a q.b).map aa),.list 12 (q.po.map bm)],aa s.1,aa s.2] (.a9 [.agg [ae q.d,.list 3 ((aA q.d s.1 s.2).map aa),.list 12 ((kO q s).map bm)],iL 0])
 bx:ax ak 55 [.agg [ae q.d,.list 3 ((aA q.d s.1 s.2).map aa),.list 12 ((kO q s).map bm)]] (fY (xH ((kO q s).map ar.p)))
 sp:ax ak 114 [.agg [ae q.d,.list 3 ((aA q.d s.1 s.2).map aa),.list 12 ((kO q s).map bm)]] (fY (ada (s.2-s.1) (kO q s)))
 dom:ax ak 52 [.agg [ae q.d,.list 3 ((aA q.d s.1 s.2).map aa),.list 12 ((kO q s).map bm)]] (aD s)
 mid:ax ak 201 [aD s] (aa (gq s))
 tg:ax ak 200 [.agg [ae q.d,.list 3 ((aA q.d s.1 s.2).map aa),.list 12 ((kO q s).map bm)],aa (gq s)] (.a9 [aE (lkU q s),iL 0])
 ends:ax ak 118 [.agg [ae q.d,.list 3 ((aA q.d s.1 s.2).map aa),.list 12 ((kO q s).map bm)]] (.a9 [aE ((kO q s).getD 0 default).p,aE ((kO q s).getD ((kO q s).length-1) default).p])
theorem aDt {q:PcT} {Dp D N:Nat} (h:pcK q Dp D N) (hDp:Dp<=23) {σ:Sp} (hs:eY Dp σ):sdK q (jR q.a q.b σ):=by
 obtain⟨s1,s2,s3,s4,s5⟩:=hs
 have hσ:eY Dp σ:=⟨s1,s2,s3,s4,s5⟩
 have cY:=h.ab
 have aqW:=hσ.rl J
 have hra:=h.ra
 have hrb:=h.rb
 have h5:=h.d5
 have hc:=h.c
 have r1:=akW hra hrb aqW.1
 have r2:=akW hra hrb aqW.2
 have eC:kO q (jR q.a q.b σ)=nS q.po σ.1 σ.2:=by
  unfold kO
  rw [show ((jR q.a q.b σ).1-q.a)/(q.b-q.a)=σ.1 from ajc cY σ.1,show ((jR q.a q.b σ).2-q.a)/(q.b-q.a)=σ.2 from ajc cY σ.2]
 have ji:σ.1<1:=by grind
 have kW:0<=σ.2:=by grind
 have aue:σ.1<=1:=by grind
 have rJ:=aj5 s1 s3 aue
 have wo:=aj5 s2 kW s5
 have hE:0<2 ^ Dp:=lC ai
 have hR:=aJL hc s3 ji kW s5 (k:=100) h.D0 hE rJ wo h.cc h.hN h.hD ai
 have tB:nJ (kO q (jR q.a q.b σ)) q.d 100:=by rw [eC];exact⟨hR,J,by decide,by decide⟩
 have bZ:(jR q.a q.b σ).1<(jR q.a q.b σ).2:=aGs cY s4
 have aH6:=arY cY s3 aue
 have aE8:=arY cY kW s5
 have e1:=fD 1 σ.1
 have e2:=fD 1 σ.2
 have rr1:rl 1=1:=rfl
 have ew:=fD (jR q.a q.b σ).2 (jR q.a q.b σ).1
 have r1':rl (jR q.a q.b σ).1<=95:=by show rl (q.a+(q.b-q.a)*σ.1)<=_;omega
 have r2':rl (jR q.a q.b σ).2<=95:=by show rl (q.a+(q.b-q.a)*σ.2)<=_;omega
 have hW:rl ((jR q.a q.b σ).2-(jR q.a q.b σ).1)<=200:=by omega
 have hmd:=aiP bZ
 have hmr:rl (gq (jR q.a q.b σ))<=95:=by
  rw [aEi]
  have hm:=(hσ.half.1).rl (show Dp+1<=24 by omega)
  have:=akW hra hrb hm.2
  have e:(sO σ).2=gq σ:=rfl
  rw [e] at this
  omega
 have hlen:(kO q (jR q.a q.b σ)).length=q.d+1:=tB.c.hl
 have kp:∀ z∈(kO q (jR q.a q.b σ)).map ar.p,cP 100 z:=fun z hz=>by
  obtain⟨y,hy,rfl⟩:=ga.1 hz
  exact(tB.c.ok y hy).1
 have yh:gI 100 (xH ((kO q (jR q.a q.b σ)).map ar.p)):=by
  have hb:∀ i,i<((kO q (jR q.a q.b σ)).map ar.p).length->cP 100 (((kO q (jR q.a q.b σ)).map ar.p).getD i default):=fun i hi=>by
   rw [bE,bY hi]
   exact kp _ (qx hi)
  have hl0:((kO q (jR q.a q.b σ)).map ar.p).length-1<((kO q (jR q.a q.b σ)).map ar.p).length:=by rw [eD,hlen];omega
  exact⟨agd hb 0 _ hl0,agd hb 1 _ hl0,agd hb 2 _ hl0⟩
 have aGQ:=ajY bZ
 have hrh:rl ((gq (jR q.a q.b σ)-(jR q.a q.b σ).1)/((jR q.a q.b σ).2-(jR q.a q.b σ).1))<=4:=by rw [aGQ];decide +kernel
 have afK:=aBI q.d q.a q.b q.po J J cY J (jR q.a q.b σ).1 (jR q.a q.b σ).2 σ.1 σ.2 J J aH6.1 bZ aE8.2 (ajc cY σ.1) (ajc cY σ.2) ji J J 1000 ai hc (fun k z hz=>bb (ahO hc.ok k z hz) ai) (fun z hz=>bb (ahv hc.ok z hz) ai) s3 kW s5
 rw [<-eC] at afK
 exact⟨hlen,tB,kp,yh,aIk tB hW,aDK h5 tB hW hrh,afK,aCw _ _ _ 100 ai tB.c,aIn _ _ _ _ J J bZ J 100 tB,ahg _ _ _ _ J J bZ J,ajz _ J,aEM _ _ _ _ J J bZ J 100 tB _ _ J hmd.1 hmd.2 rfl J,aJn _ _ _ 100 ai tB.c⟩
def lP (x y:Rat):pq:=fun A B =>
 if (A.getD 0 default).1<=1/2/\1/2<=(A.getD 0 default).2/\(B.getD 0 default).1<=x/\x<=(B.getD 0 default).2/\(B.getD 1 default).1<=y/\y<=(B.getD 1 default).2 then
  (false,if (A.getD 0 default).1<1/2/\1/2<(A.getD 0 default).2/\(B.getD 0 default).1<x/\x<(B.getD 0 default).2/\(B.getD 1 default).1<y/\y<(B.getD 1 default).2 then 3 else 2,0)
 else(true,0,0)
def tr:fR:=([cS,cS,cS],0,[0,0,0])
def y6 (x y:Rat):Prop:=0<x/\x<1/\0<y/\y<1
def acz (x y:Rat):Prop:=x<0\/1<x\/y<0\/1<y
theorem aqg {x y:Rat} (h:y6 x y) (D W:Nat) (hW:0<W):tH D W 1 0 (lP x y) ([tr],0,[])=([],1,[([cS],[cS,cS],3,0)]):=by
 obtain⟨h1,h2,h3,h4⟩:=h
 have hl:lP x y [cS] [cS,cS]=(false,3,0):=by
  unfold lP
  simp only [zy,aaD]
  rw [show cS=((0,1):Sp) from rfl,if_pos ⟨by decide +kernel,by decide +kernel,by grind,by grind,by grind,by grind⟩,if_pos ⟨by decide +kernel,by decide +kernel,h1,h2,h3,h4⟩]
 have hE:=afn D W 1 0 (lP x y) ([tr],0,[])
 have hs:nq D W 1 0 (lP x y) ([tr],0,[])=([],1,[([cS],[cS,cS],3,0)]):=by
  rw [nq,if_neg J]
  simp only [tr,rq,uZ,wW,ks,hl]
  rw [if_neg ai,if_pos (by unfold ou;simp [k9])]
  rfl
 have:=hE.step
 rw [hs] at this
 exact this.nil
theorem auR {x y:Rat} (h:acz x y) (D W:Nat) (hW:0<W):tH D W 1 0 (lP x y) ([tr],0,[])=([],1,[]):=by
 have hl:lP x y [cS] [cS,cS]=(true,0,0):=by
  unfold lP
  simp only [zy,aaD]
  refine if_neg fun⟨_,_,a,b,c,d⟩=>?_
  have a:(0:Rat)<=x:=a
  have b:x<=1:=b
  have c:(0:Rat)<=y:=c
  have d:y<=1:=d
  rcases h with h | h | h | h<;>grind
 have hE:=afn D W 1 0 (lP x y) ([tr],0,[])
 have hs:nq D W 1 0 (lP x y) ([tr],0,[])=([],1,[]):=by
  rw [nq,if_neg J]
  simp only [tr,rq,uZ,wW,ks,hl]
  rfl
 have:=hE.step
 rw [hs] at this
 exact this.nil
def abP (n:Nat) (x:fR):Prop:=x.1.length=n/\x.2.2.length=n/\∀ s∈x.1,0<=s.1/\s.1<=1/\0<=s.2/\s.2<=1
theorem apl {n:Nat} {x:fR} (hn:0<n) (h:abP n x):abP n (oY x)/\abP n (pF x):=by
 obtain⟨h1,h2,h3⟩:=h
 have ha:=adh (t:=x.2.2) x.2.2.length (bF _) J
 have hm:x.1.getD (fw x) default∈x.1:=ajl (by unfold fw;omega)
 have hq:=h3 _ hm
 unfold oY pF
 generalize x.1.getD (fw x) default=q at hq ⊢
 have e:(q.1+q.2)/2*2=q.1+q.2:=lD ai
 have m:0<=gq q/\gq q<=1:=by unfold gq;constructor<;>grind
 have key:∀ s':Sp,(0<=s'.1/\s'.1<=1/\0<=s'.2/\s'.2<=1)->abP n (yj x s'):=fun s' jO=>by
  refine⟨by simp [yj,h1],by simp [yj,h2],fun s hs=>?_⟩
  have hs:s∈x.1.set (fw x) s':=hs
  rcases List.mem_or_eq_of_mem_set hs with r | r
  ·exact h3 s r
  ·rw [r];exact jO
 exact⟨key _ ⟨hq.1,hq.2.1,m.1,m.2⟩,key _ ⟨m.1,m.2,hq.2.2.1,hq.2.2.2⟩⟩
theorem aCM {x y:Rat} (h:¬y6 x y) (D W:Nat):∀ c∈(tH D W 1 0 (lP x y) ([tr],0,[])).2.2,c.2.2.1≠3:=by
 have hk:∀ b,abP 3 b->k9 (lP x y (b.1.take 1) (b.1.drop 1))≠3:=fun b hb=>by
  obtain⟨hl,_,hb⟩:=hb
  obtain⟨r,s,t,e⟩:∃ r s t,b.1=[r,s,t]:=by
   match b.1,hl with
   | [r,s,t],_=>exact⟨r,s,t,rfl⟩
  rw [e] at hb ⊢
  have hs:=hb s aW
  have ht:=hb t aW
  unfold k9 lP
  simp only [rq,uZ,wW,ks,zy,aaD]
  split
  ·rename_i hg
   by_cases hi:r.1<1/2/\1/2<r.2/\s.1<x/\x<s.2/\t.1<y/\y<t.2
   ·exact absurd ⟨by grind,by grind,by grind,by grind⟩ h
   ·rw [if_neg hi];decide
  ·decide
 have:=(akG (D:=D) (W:=W) (na:=1) (wd:=0) (lk:=lP x y) (fun s=>(∀ x∈s.1,abP 3 x)/\∀ c∈s.2.2,c.2.2.1≠3) (fun b st n cs hI=>by
  obtain⟨i1,i2⟩:=hI
  have hx:=i1 b aW
  have eI:∀ y∈st,abP 3 y:=fun y hy=>i1 y (by simp [hy])
  rw [nq]
  split
  ·refine⟨eI,fun c hc=>?_⟩
   rcases oO.1 hc with hc | hc
   ·exact i2 c hc
   ·simp only [fP] at hc;subst hc;show (1:Nat)≠3;decide
  ·split
   ·exact⟨eI,i2⟩
   ·split
    ·refine⟨eI,fun c hc=>?_⟩
     rcases oO.1 hc with hc | hc
     ·exact i2 c hc
     ·simp only [fP] at hc;subst hc;exact hk b hx
    ·refine⟨fun y hy=>?_,i2⟩
     simp only [ff] at hy
     rcases hy with rfl | rfl | hy
     ·exact(apl ai hx).1
     ·exact(apl ai hx).2
     ·exact eI y hy) _ (bF _) (s:=([tr],0,[])) ⟨fun x hx=>by
      simp only [fP] at hx;subst hx
      refine⟨rfl,rfl,fun s hs=>?_⟩
      have hs:s∈[cS,cS,cS]:=hs
      simp only [ff,iq,or_false,or_self] at hs
      subst hs
      decide +kernel,fun c hc=>by simp at hc⟩ (afn D W 1 0 (lP x y) ([tr],0,[]))).1
 exact this.2
theorem aiF {p q:V3} (h:p.x=q.x/\p.y=q.y/\p.z=q.z):p=q:=by
 obtain⟨a,b,c⟩:=p
 obtain⟨d,e,f⟩:=q
 obtain⟨h1,h2,h3⟩:=h
 have h1:a=d:=h1
 have h2:b=e:=h2
 have h3:c=f:=h3
 rw [h1,h2,h3]
def uA (x y:Rat):V3:=⟨x,y,-1⟩
def uD:V3:=⟨0,0,2⟩
def uP (x y:Rat) (s:Sp):List ar:=rC (uA x y) uD s.1 s.2
theorem zZ (x y t:Rat):vR (uA x y) uD t=⟨x,y,2*t-1⟩:=by
 refine aiF ⟨?_,?_,?_⟩
 ·show x+t*0=x;rw [aav,jC]
 ·show y+t*0=y;rw [aav,jC]
 ·show -1+t*2=2*t-1;grind
theorem auE (x y:Rat) (s:Sp):(uP x y s).map ar.p=[⟨x,y,2*s.1-1⟩,⟨x,y,2*s.2-1⟩]:=by
 show [vR (uA x y) uD s.1,vR (uA x y) uD s.2]=_
 rw [zZ,zZ]
theorem auH (x y:Rat):uP x y (0,1)=[⟨⟨x,y,-1⟩,1⟩,⟨⟨x,y,1⟩,1⟩]:=by
 show [(⟨vR (uA x y) uD 0,1⟩:ar),⟨vR (uA x y) uD 1,1⟩]=_
 rw [zZ,zZ]
 have h1:(2:Rat)*0-1=-1:=by decide +kernel
 have h2:(2:Rat)*1-1=1:=by decide +kernel
 rw [h1,h2]
theorem aAC (x y:Rat) {s:Sp} (h:s.1<1):nS (uP x y (0,1)) s.1 s.2=uP x y s:=aJO (uA x y) uD s.1 s.2 h
theorem aC9 (x y:Rat) {s:Sp} (h:s.1<s.2):ada (s.2-s.1) (uP x y s)=⟨(0,0),(0,0),(2,2)⟩:=by
 unfold ada uP
 rw [alL _ _ _ _ h,alL _ _ _ _ h,alL _ _ _ _ h];rfl
theorem aG4 (x y t:Rat) {s:Sp} (h:s.1<s.2):adD (s.2-s.1) (uP x y s) t=uD:=aAv _ _ _ _ _ h
def uM:M3:=mdM uD ⟨1,0,0⟩ ⟨0,1,0⟩
theorem aEd:¬vlM uM=0:=by decide +kernel
theorem aIT:(gG uM).a=⟨0,0,1/2⟩:=aiF al
theorem aBx:(gG uM).b=⟨-1,0,0⟩:=aiF al
theorem aCL:(gG uM).c=⟨0,-1,0⟩:=aiF al
theorem aBU:jr (d3S ⟨(0,0),(0,0),(2,2)⟩ (pj ⟨(1,1),(0,0),(0,0)⟩) (pj ⟨(0,0),(1,1),(0,0)⟩)) 0=false:=by decide +kernel
theorem aGU (p:V3):cJ ⟨0,0,1/2⟩ p=p.z/2:=by
 have h:p.z/2*2=p.z:=lD ai
 have h2:(1/2:Rat)*2=1:=by decide +kernel
 show 0+0*p.x+0*p.y+1/2*p.z=p.z/2
 grind
theorem axj (p:V3):cJ ⟨-1,0,0⟩ p=-p.x:=by
 show 0+-1*p.x+0*p.y+0*p.z=-p.x
 grind
theorem auk (p:V3):cJ ⟨0,-1,0⟩ p=-p.y:=by
 show 0+0*p.x+-1*p.y+0*p.z=-p.y
 grind
theorem aGb (p:Rat):de [p,p,p,p]=(p,p):=by
 simp only [de,l8,List.length_nil,kJ,iV,eM,er]
 simp
theorem aj4 (p q:Rat):nk (p,p) (q,q)=true↔(p<0/\0<q)\/(0<p/\q<0):=by rw [azN,decide_eq_true_iff]
theorem afH (p q:Rat):vS (p,p) (q,q)=(p-q,p-q):=rfl
def kdU (x y:Rat) (s u v:Sp):Nat:=if s.1<1/2/\1/2<s.2/\u.1<x/\x<u.2/\v.1<y/\y<v.2 then 3 else 2
def yn (u v:Sp):List ar:=[⟨⟨u.1,v.1,0⟩,1⟩,⟨⟨u.1,v.2,0⟩,1⟩]
def xI (u v:Sp):List ar:=[⟨⟨u.2,v.1,0⟩,1⟩,⟨⟨u.2,v.2,0⟩,1⟩]
def rwC (u v:Sp):List ar:=[⟨⟨u.1,v.1,0⟩,1⟩,⟨⟨u.2,v.1,0⟩,1⟩]
def rwD (u v:Sp):List ar:=[⟨⟨u.1,v.2,0⟩,1⟩,⟨⟨u.2,v.2,0⟩,1⟩]
theorem ayL (x y:Rat) {s u v:Sp} (hs:s.1<s.2) (hu:u.1<u.2) (hv:v.1<v.2) :
  o8 ⟨(0,0),(0,0),(2,2)⟩ ⟨(1,1),(0,0),(0,0)⟩ ⟨(0,0),(1,1),(0,0)⟩ uM ⟨x,y,2*s.1-1⟩ ⟨x,y,2*s.2-1⟩ ((uP x y s).map ar.p) ((yn u v).map ar.p++(xI u v).map ar.p) ((yn u v).map ar.p) ((xI u v).map ar.p) ((rwC u v).map ar.p) ((rwD u v).map ar.p)=kdU x y s u v:=by
 unfold o8
 rw [if_neg (by rw [aBU];decide),if_neg aEd,aIT,aBx,aCL,auE]
 have z0:(0:Rat)/2=0:=by decide +kernel
 have o0:nk (fC ⟨0,0,1/2⟩ [⟨x,y,2*s.1-1⟩] ((yn u v).map ar.p++(xI u v).map ar.p)) (fC ⟨0,0,1/2⟩ [⟨x,y,2*s.2-1⟩] ((yn u v).map ar.p++(xI u v).map ar.p))=true↔s.1<1/2/\1/2<s.2:=by
  have e:∀ t:Rat,fC ⟨0,0,1/2⟩ [⟨x,y,2*t-1⟩] ((yn u v).map ar.p++(xI u v).map ar.p)=((2*t-1)/2-0,(2*t-1)/2-0):=fun t=>by
   show vS (de [cJ ⟨0,0,1/2⟩ ⟨x,y,2*t-1⟩]) (de [cJ ⟨0,0,1/2⟩ ⟨u.1,v.1,0⟩,cJ ⟨0,0,1/2⟩ ⟨u.1,v.2,0⟩,cJ ⟨0,0,1/2⟩ ⟨u.2,v.1,0⟩,cJ ⟨0,0,1/2⟩ ⟨u.2,v.2,0⟩])=_
   simp only [aGU,z0,aJD,aGb,afH]
  rw [e,e,aj4]
  have h1:(2*s.1-1)/2*2=2*s.1-1:=lD ai
  have h2:(2*s.2-1)/2*2=2*s.2-1:=lD ai
  constructor
  ·rintro(⟨a,b⟩ | ⟨a,b⟩)
   ·exact⟨by grind,by grind⟩
   ·exact absurd hs dz
  ·rintro⟨a,b⟩
   exact .inl ⟨by grind,by grind⟩
 have o1:nk (fC ⟨-1,0,0⟩ [⟨x,y,2*s.1-1⟩,⟨x,y,2*s.2-1⟩] ((yn u v).map ar.p)) (fC ⟨-1,0,0⟩ [⟨x,y,2*s.1-1⟩,⟨x,y,2*s.2-1⟩] ((xI u v).map ar.p))=true↔u.1<x/\x<u.2:=by
  have e1:fC ⟨-1,0,0⟩ [⟨x,y,2*s.1-1⟩,⟨x,y,2*s.2-1⟩] ((yn u v).map ar.p)=(-x - -u.1,-x - -u.1):=by
   show vS (de [cJ ⟨-1,0,0⟩ ⟨x,y,2*s.1-1⟩,cJ ⟨-1,0,0⟩ ⟨x,y,2*s.2-1⟩]) (de [cJ ⟨-1,0,0⟩ ⟨u.1,v.1,0⟩,cJ ⟨-1,0,0⟩ ⟨u.1,v.2,0⟩])=_
   simp only [axj,ad3,afH]
  have e2:fC ⟨-1,0,0⟩ [⟨x,y,2*s.1-1⟩,⟨x,y,2*s.2-1⟩] ((xI u v).map ar.p)=(-x - -u.2,-x - -u.2):=by
   show vS (de [cJ ⟨-1,0,0⟩ ⟨x,y,2*s.1-1⟩,cJ ⟨-1,0,0⟩ ⟨x,y,2*s.2-1⟩]) (de [cJ ⟨-1,0,0⟩ ⟨u.2,v.1,0⟩,cJ ⟨-1,0,0⟩ ⟨u.2,v.2,0⟩])=_
   simp only [axj,ad3,afH]
  rw [e1,e2,aj4]
  constructor
  ·rintro(⟨a,b⟩ | ⟨a,b⟩)
   ·exact⟨by grind,by grind⟩
   ·exact absurd hu dz
  ·rintro⟨a,b⟩
   exact .inl ⟨by grind,by grind⟩
 have o2:nk (fC ⟨0,-1,0⟩ [⟨x,y,2*s.1-1⟩,⟨x,y,2*s.2-1⟩] ((rwC u v).map ar.p)) (fC ⟨0,-1,0⟩ [⟨x,y,2*s.1-1⟩,⟨x,y,2*s.2-1⟩] ((rwD u v).map ar.p))=true↔v.1<y/\y<v.2:=by
  have e1:fC ⟨0,-1,0⟩ [⟨x,y,2*s.1-1⟩,⟨x,y,2*s.2-1⟩] ((rwC u v).map ar.p)=(-y - -v.1,-y - -v.1):=by
   show vS (de [cJ ⟨0,-1,0⟩ ⟨x,y,2*s.1-1⟩,cJ ⟨0,-1,0⟩ ⟨x,y,2*s.2-1⟩]) (de [cJ ⟨0,-1,0⟩ ⟨u.1,v.1,0⟩,cJ ⟨0,-1,0⟩ ⟨u.2,v.1,0⟩])=_
   simp only [auk,ad3,afH]
  have e2:fC ⟨0,-1,0⟩ [⟨x,y,2*s.1-1⟩,⟨x,y,2*s.2-1⟩] ((rwD u v).map ar.p)=(-y - -v.2,-y - -v.2):=by
   show vS (de [cJ ⟨0,-1,0⟩ ⟨x,y,2*s.1-1⟩,cJ ⟨0,-1,0⟩ ⟨x,y,2*s.2-1⟩]) (de [cJ ⟨0,-1,0⟩ ⟨u.1,v.2,0⟩,cJ ⟨0,-1,0⟩ ⟨u.2,v.2,0⟩])=_
   simp only [auk,ad3,afH]
  rw [e1,e2,aj4]
  constructor
  ·rintro(⟨a,b⟩ | ⟨a,b⟩)
   ·exact⟨by grind,by grind⟩
   ·exact absurd hv dz
  ·rintro⟨a,b⟩
   exact .inl ⟨by grind,by grind⟩
 unfold kdU
 by_cases g:s.1<1/2/\1/2<s.2/\u.1<x/\x<u.2/\v.1<y/\y<v.2
 ·obtain⟨g1,g2,g3,g4,g5,g6⟩:=g
  rw [if_pos ⟨o0.2 ⟨g1,g2⟩,o1.2 ⟨g3,g4⟩,o2.2 ⟨g5,g6⟩⟩,if_pos ⟨g1,g2,g3,g4,g5,g6⟩]
 ·rw [if_neg g,if_neg fun⟨a,b,c⟩=>g ⟨(o0.1 a).1,(o0.1 a).2,(o1.1 b).1,(o1.1 b).2,(o2.1 c).1,(o2.1 c).2⟩]
theorem axD (x:Rat) {u:Sp} (hu:u.1<u.2):mo (x,x) u=true↔u.1<=x/\x<=u.2:=by
 unfold mo
 rw [decide_eq_true_eq]
 show er x u.1<=eM x u.2↔_
 unfold er eM
 split<;>split<;>constructor<;>intro h<;>grind
theorem aIQ {s:Sp} (hs:s.1<s.2):mo (2*s.1-1,2*s.2-1) (0,0)=true↔s.1<=1/2/\1/2<=s.2:=by
 unfold mo
 rw [decide_eq_true_eq]
 show er (2*s.1-1) 0<=eM (2*s.2-1) 0↔_
 have h1:(1/2:Rat)*2=1:=by decide +kernel
 unfold er eM
 split<;>split<;>constructor<;>intro h<;>grind
theorem aAz (x y:Rat) {s:Sp} (hs:s.1<s.2):xH ((uP x y s).map ar.p)=⟨(x,x),(y,y),(2*s.1-1,2*s.2-1)⟩:=by
 rw [auE]
 show (⟨iV (x,x) (x,x),iV (y,y) (y,y),iV (2*s.1-1,2*s.1-1) (2*s.2-1,2*s.2-1)⟩:jt)=_
 have m1:eM (2*s.1-1) (2*s.2-1)=2*s.1-1:=by unfold eM;rw [if_neg dz]
 have m2:er (2*s.1-1) (2*s.2-1)=2*s.2-1:=by unfold er;split<;>grind
 unfold iV
 simp only [ajI,agu,m1,m2]
theorem aHu (x y:Rat) {s u v:Sp} (hs:s.1<s.2) (hu:u.1<u.2) (hv:v.1<v.2):lkG (xH ((uP x y s).map ar.p)) ⟨u,v,(0,0)⟩ (kdU x y s u v)=lP x y [s] [u,v]:=by
 rw [aAz x y hs]
 unfold lkG lP
 simp only [zy,aaD]
 have hm:meB ⟨(x,x),(y,y),(2*s.1-1,2*s.2-1)⟩ ⟨u,v,(0,0)⟩=true↔s.1<=1/2/\1/2<=s.2/\u.1<=x/\x<=u.2/\v.1<=y/\y<=v.2:=by
  show (mo (x,x) u && mo (y,y) v && mo (2*s.1-1,2*s.2-1) (0,0))=true↔_
  rw [mR,mR,axD x hu,axD y hv,aIQ hs]
  constructor
  ·rintro⟨⟨⟨a,b⟩,c,d⟩,e,f⟩;exact⟨e,f,a,b,c,d⟩
  ·rintro⟨e,f,a,b,c,d⟩;exact⟨⟨⟨a,b⟩,c,d⟩,e,f⟩
 by_cases g:s.1<=1/2/\1/2<=s.2/\u.1<=x/\x<=u.2/\v.1<=y/\y<=v.2
 ·rw [if_pos (hm.2 g),if_pos g];rfl
 ·rw [if_neg fun h=>g (hm.1 h),if_neg g]
def cqI (D:Nat) (x:fR):Prop:=∃ (s u v:Sp) (i j k:Int),x.1=[s,u,v]/\x.2.2=[i,j,k]/\(0<=i/\i<=x.2.1/\0<=j/\j<=x.2.1/\0<=k/\k<=x.2.1)/\x.2.1<=D/\eY x.2.1 s/\eY x.2.1 u/\eY x.2.1 v
theorem adt:eY 0 ((0,1):Sp):=⟨ax9 0,ax9 1,by decide +kernel,by decide +kernel,by decide +kernel⟩
theorem aFM (D:Nat):cqI D ([((0,1):Sp)]++[(0,1),(0,1)],0,aV 3 0) :=
 ⟨(0,1),(0,1),(0,1),0,0,0,rfl,rfl,⟨acB _,acB _,acB _,acB _,acB _,acB _⟩,bS _,adt,adt,adt⟩
theorem aJx {D:Nat} {x:fR} (h:cqI D x) (hd:x.2.1<D):cqI D (oY x)/\cqI D (pF x):=by
 obtain⟨s,u,v,i,j,k,e,f,⟨i1,i2,j1,j2,k1,k2⟩,_,hs,hu,hv⟩:=h
 have ha:fw x=0\/fw x=1\/fw x=2:=by
  have:=adh (t:=x.2.2) x.2.2.length (bF _) (by rw [f];exact Nat.succ_pos _)
  have hl:x.2.2.length=3:=by rw [f];rfl
  unfold fw;omega
 have c1:∀ n:Int,n<=x.2.1->n+1<=((x.2.1+1:Nat):Int):=fun n h=>by omega
 have c2:∀ n:Int,n<=x.2.1->n<=((x.2.1+1:Nat):Int):=fun n h=>by omega
 unfold oY pF yj
 rcases ha with g | g | g
 ·rw [g,e,f]
  exact⟨⟨sO s,u,v,i+1,j,k,rfl,rfl,⟨J,c1 i i2,j1,c2 j j2,k1,c2 k k2⟩,hd,hs.half.1,hu.succ,hv.succ⟩,
   ⟨tM s,u,v,i+1,j,k,rfl,rfl,⟨J,c1 i i2,j1,c2 j j2,k1,c2 k k2⟩,hd,hs.half.2,hu.succ,hv.succ⟩⟩
 ·rw [g,e,f]
  exact⟨⟨s,sO u,v,i,j+1,k,rfl,rfl,⟨i1,c2 i i2,J,c1 j j2,k1,c2 k k2⟩,hd,hs.succ,hu.half.1,hv.succ⟩,
   ⟨s,tM u,v,i,j+1,k,rfl,rfl,⟨i1,c2 i i2,J,c1 j j2,k1,c2 k k2⟩,hd,hs.succ,hu.half.2,hv.succ⟩⟩
 ·rw [g,e,f]
  exact⟨⟨s,u,sO v,i,j,k+1,rfl,rfl,⟨i1,c2 i i2,j1,c2 j j2,J,c1 k k2⟩,hd,hs.succ,hu.succ,hv.half.1⟩,
   ⟨s,u,tM v,i,j,k+1,rfl,rfl,⟨i1,c2 i i2,j1,c2 j j2,J,c1 k k2⟩,hd,hs.succ,hu.succ,hv.half.2⟩⟩
theorem aHv {P:Program} {f:Nat} {cap:List LV} {D:Nat} (hD:D<=24) (lk:pq)
  (hl:∀ s u v:Sp,eY D s->eY D u->eY D v->ax P f ([.list 6 ([s].map aD),.list 6 ([u,v].map aD)]++cap) (vdL (lk [s] [u,v])))
  (hk:∀ s u v:Sp,eY D s->eY D u->eY D v->(lk [s] [u,v]).2.1<=4/\(lk [s] [u,v]).2.2<=4):ak0 P f cap D 1 3 lk (cqI D):=by
 have hle:∀ {n:Nat} {s:Sp},n<=D->eY n s->eY D s:=fun hn h=>⟨h.1.le hn,h.2.1.le hn,h.2.2⟩
 refine⟨fun x h=>?_,fun x h t ht=>?_,fun x h=>?_,fun x h s hs=>?_,fun x h hd=>aJx h hd,fun x h=>?_,fun x h=>?_⟩
 ·obtain⟨s,u,v,i,j,k,e,f,_⟩:=h;rw [e,f];exact⟨rfl,rfl⟩
 ·obtain⟨s,u,v,i,j,k,e,f,⟨i1,i2,j1,j2,k1,k2⟩,hd,_⟩:=h
  rw [f] at ht
  simp only [ff,iq,or_false] at ht
  rcases ht with rfl | rfl | rfl<;>omega
 ·obtain⟨_,_,_,_,_,_,_,_,_,hd,_⟩:=h;exact hd
 ·obtain⟨s',u,v,i,j,k,e,f,_,hd,h1,h2,h3⟩:=h
  rw [e] at hs
  simp only [ff,iq,or_false] at hs
  have key:∀ q:Sp,eY x.2.1 q->dg 1000 q/\q.1<=q.2:=fun q hq=>by
   have hr:=hq.rl J
   exact⟨⟨J,J⟩,mZ hq.2.2.2.1⟩
  rcases hs with rfl | rfl | rfl
  ·exact key _ h1
  ·exact key _ h2
  ·exact key _ h3
 ·obtain⟨s,u,v,i,j,k,e,f,_,hd,h1,h2,h3⟩:=h
  rw [e];exact hl s u v (hle hd h1) (hle hd h2) (hle hd h3)
 ·obtain⟨s,u,v,i,j,k,e,f,_,hd,h1,h2,h3⟩:=h
  rw [e];exact hk s u v (hle hd h1) (hle hd h2) (hle hd h3)
theorem aIz (x y:Rat) (A B:List Sp):(lP x y A B).2.1<=4/\(lP x y A B).2.2<=4:=by
 unfold lP
 split
 ·refine⟨?_,bS _⟩
  show (if _ then 3 else 2)<=4
  split<;>omega
 ·exact⟨bS _,bS _⟩
theorem ayG {l:List (Nat × bA)} {c:Nat} (h:∀ x∈l.map (·.1),x≠c):hp l c=none:=by
 induction l with
 | nil=>rfl
 | cons q t ih =>
  obtain⟨d,y⟩:=q
  have e:Nat.beq c d=false:=by
   rw [<-ad9,aeQ]
   exact fun e=>h d aW e.symm
  simp only [hp,e,cond_false]
  exact ih fun x hx=>h x (by simp only [lI,ff];exact .inr hx)
theorem aAK {P:Program} {L L0:St} {id:Nat} {ops:Array Oper} {d:Bool} {Q:jT->St->Prop} (hw:az L L0) (h:cU P (.region id ops d) Q L0):cU P (.region id ops d) Q L:=by
 unfold cU at h ⊢
 obtain⟨L1,h1,h2⟩:=h
 exact⟨L1,hw.trans h1,h2⟩
namespace aru
theorem aw {p q:Prop} (k:q) (e:p=q:=by simp only [e1,e2,e3,e4,p1,p2,p3,q1,q2,q3,l1,t0,t1,r1,r2,r3,r4,Nat.zero_add,Nat.reduceMul,Nat.reduceAdd,b1,b2,b3,b4,b5,b6,i1,i2,i3,i4,i5,i6,Nat.reduceBEq,hC.kill,hS.kill,hC.cs,hS.cs,hc5,hc7,p9,agz,qy _ _ (agZ _),List.length_map,fo,eO,dW,List.length_cons,List.length_nil,List.nil_append,List.map_nil,List.take_nil,List.append_nil,aG bl,aG ajn,List.getD_cons_zero,List.getD_cons_succ,List.set_cons_zero,List.set_cons_succ,Nat.reduceEqDiff,reduceIte,if_true,if_false,cB,dB,aG aX,aG bz,aG an,cA,cC,LV.kill,bH];exact rfl):p:=e.mpr k
end aru
open aru in
theorem aA5 (C S:LV) (hC:oc C 3) (hS:oc S 5) (s0 u0 v0:Sp) (d w:Nat) (wd:Rat) (hd:d<=10) (hw:w<=4096) (hwd:rl wd<=100) (lk:pq) (I:fR->Prop) (hVa:ax ak 34 [.agg [ae d,ae w,aa wd]] (bL true)) (hPi:ax ak 51 [C] (.list 3 [C])) (hPa:ax ak 35 [S] (.list 5 [S])) (hDc:ax ak 52 [C] (aD s0)) (hDo:ax ak 36 [S] (.a9 [aD u0,aD v0])) (hLk:ak0 ak 53 ([.ba C,.ba S]:List LV) d 1 3 lk I) (hI0:I ([s0]++[u0,v0],0,aV 3 0)):ax ak 18 [C,S,.agg [ae d,ae w,aa wd]] (.a9 [.list 4 ((tH d w 1 wd lk ([([s0]++[u0,v0],0,aV 3 0)],0,[])).2.2.map iW),iL 0]):=by
 have hc5:(LV.agg [ae d,ae w,aa wd]).av=5:=by simp [LV.av,cL,an.av]
 have hc7:(LV.agg [.agg [ae d,ae w,aa wd],.v (.slice none 0 0),ae 0]).av=7:=by simp [LV.av,cL,an.av]
 have jn:LV.pure (.agg [ae d,ae w,aa wd])=true:=aG2 d w wd
 have x8:∀ m n:Nat,dX (nmC 21 900 50) [.agg [.agg [ae d,ae w,aa wd],.ref 1 4 0 m,ae n]]=[.agg [.agg [ae d,ae w,aa wd],.ref 900 4 0 m,ae n]]:=fun m n=>by
  simp only [dX,LV.b7,ae,LV.cQ _ (aa wd) (an.pure wd)];rfl
 have hnR:∀ m n:Nat,dX (mc 21 50) [.agg [.agg [ae d,ae w,aa wd],.ref 1 4 0 m,ae n]]=[.agg [.agg [ae d,ae w,aa wd],.ref 1000801 4 0 m,ae n]]:=fun m n=>by
  simp only [dX,LV.b7,ae,LV.cQ _ (aa wd) (an.pure wd)];rfl
 have hnC:∀ l:List jc,dX (mc 21 50) (l.map iW)=l.map iW:=fun l=>qy _ _ (agZ _)
 have ki:mc 21 50 1=1000801:=rfl
 have fx:aK ([.ba C,.ba S]:List LV)=true:=by simp only [aK,LV.pure,hC.pu,hS.pu,acb]
 have jB:∀ x∈([.ba C,.ba S]:List LV),x.av=1/\x.isAgg=false:=fun x hx=>by
  simp only [ff,iq,or_false] at hx
  rcases hx with e | e<;>rw [e]<;>exact⟨rfl,rfl⟩
 have aDk:=ayz 53 1 3 d w ([.ba C,.ba S]:List LV) lk I hLk fx jB [s0] [u0,v0] rfl aW aW rfl ai hI0 wd hwd 0 [] J hw (bS _) aW
 refine aR Tryz.func18 (ht:=(iF (by simp only [LV.pure,agZ]) rfl)) ?_
 refine aH ?_
 refine dF rfl rfl (.box ⟨LV.dT hC.pu,LV.dG hC.pu⟩) ?_
 refine dF rfl rfl (.box ⟨LV.dT hS.pu,LV.dG hS.pu⟩) ?_
 refine bg ?_
 refine ah rfl (.dU rfl rfl rfl rfl cs (cr cs rfl) T41) ?_
 refine bM rfl (.cons (.pure jn) .nil) (hVa) ?_
 refine aQ ?_
 refine dp (b:=_) rfl (rfl) ?_
 refine aB ?_
 refine ah rfl (.dU rfl rfl rfl rfl cs (cr cs rfl) T41) ?_
 refine ah rfl (show aN _ _ _ _ (.agg [.agg [ae d,ae w,aa wd],.v (.slice none 0 0),ae 0]) from .build (zs:=[.agg [.v (.int .i64 0),.v (.int .i64 0),aa 0],.v (.slice none 0 0),.v (.int .i64 0)]) (by simpa [lay,LV.av,cL,LV.isAgg,an.av] using apA) Z88 (by simp only [agU];exact⟨⟨_,rfl,(show lay (.agg [ae d,ae w,aa wd])=lay (.agg [.v (.int .i64 0),.v (.int .i64 0),aa 0]) by simp [lay,LV.av,cL,LV.isAgg,an.av]),jH⟩,fun _ h=>by cases h⟩)) ?_
 refine ay ?_
 try refine aw ?_
 refine ah rfl (.dU (b:=4) (sz:=5) (i:=0) (o:=0) (x:=S) (r:=S) (n:=5) (ag:=true) rfl rfl rfl rfl hS.cs (cr hS.cs hS.ag) nd) ?_
 refine bM rfl (.cons (.pure hS.pu) .nil) (hPa) ?_
 refine ay ?_
 refine ah rfl (.dU (b:=3) (sz:=3) (i:=0) (o:=0) (x:=C) (r:=C) (n:=3) (ag:=true) rfl rfl rfl rfl hC.cs (cr hC.cs hC.ag) ob) ?_
 refine bM rfl (.cons (.pure hC.pu) .nil) (hPi) ?_
 refine a7 ?_
 refine bc ?_
 refine ay ?_
 refine bI (b:=_) rfl (rfl) ?_
 refine ay ?_
 refine ah rfl (.gD rfl aji ob rfl ai rfl hC.cs) ?_
 refine ah rfl (.l9 rfl hC.pu hC.cs hC.ag) ?_
 refine ao ?_
 try refine aw ?_
 refine bO rfl (.store rfl rfl rfl rfl rfl rfl (yp _ _ hC.cs.symm hC.ag.symm) (show bK _ _ (C).av (C).isAgg by rw [hC.cs,hC.ag];exact ob) ⟨LV.dT hC.pu,LV.dG hC.pu⟩) ?_
 refine bh ?_
 refine bc ?_
 refine ay ?_
 refine bI (b:=_) rfl (rfl) ?_
 refine ay ?_
 refine ah rfl (.gD rfl ahe nd rfl ai rfl hS.cs) ?_
 refine ah rfl (.l9 rfl hS.pu hS.cs hS.ag) ?_
 refine ao ?_
 try refine aw ?_
 refine bO rfl (.store rfl rfl rfl rfl rfl rfl (yp _ _ hS.cs.symm hS.ag.symm) (show bK _ _ (S).av (S).isAgg by rw [hS.cs,hS.ag];exact nd) ⟨LV.dT hS.pu,LV.dG hS.pu⟩) ?_
 refine aB ?_
 try refine aw ?_
 refine ah rfl (.dU (b:=13) (sz:=5) (i:=0) (o:=0) (x:=S) (r:=S) (n:=5) (ag:=true) rfl rfl rfl rfl hS.cs (cr hS.cs hS.ag) nd) ?_
 refine bM rfl (.cons (.pure hS.pu) .nil) (hDo) ?_
 refine bB ?_
 refine aAK (az.aEF (b:=21) (d:=900) (csz:=4) ai rfl rfl (fun Z μ w part h=>aJt (d:=900) (c:=4) Z μ w part h)) ?_
 try refine aw ?_
 refine ay8 rfl 8 al rfl ?_
 simp only [rq,uZ]
 refine ao ?_
 try refine aw ?_
 refine ah rfl (.dU (b:=11) (sz:=3) (i:=0) (o:=0) (x:=C) (r:=C) (n:=3) (ag:=true) rfl rfl rfl rfl hC.cs (cr hC.cs hC.ag) ob) ?_
 try refine aw ?_
 refine bM rfl (.cons (.pure hC.pu) .nil) (hDc) ?_
 try refine aw ?_
 refine dF rfl rfl (.aw8 (a:=s0) (z:=(0,0)) bl qd aaq jM rfl ai ai) ?_
 try refine aw ?_
 refine ao ?_
 try refine aw ?_
 refine ao ?_
 try refine aw ?_
 refine dF rfl rfl (.wO (a:=u0) (b:=v0) (z:=(0,0)) bl qd aaq jM rfl rfl ai ai) ?_
 try refine aw ?_
 refine eN [11,13,45,48] rfl rfl (.mk (caps:=([.ba C,.ba S]:List LV)) (.cons (.aF rfl rfl rfl hC.cs (cr hC.cs hC.ag) hC.pu rfl) (.cons (.aF rfl rfl rfl hS.cs (cr hS.cs hS.ag) hS.pu rfl) .nil)) jB) rfl ?_
 try refine aw ?_
 refine aBA rfl (aro (f:=37) (b:=21) (c:=900) (sz:=7) (csz:=4) (vals:=[.agg [.agg [ae d,ae w,aa wd],.ref 1 4 0 0,ae 0]]) (cvals:=[]) 50 rfl ai ai (by rw [x8];rfl) rfl (.cons (.b7 (y:=.aF 0 7 0 0) ⟨by simp,by simp⟩) (.cons (.eF (.ref (blk:=⟨6,[aD s0],false⟩) rfl rfl (by simp [aK,bl.pure]) aW rfl)) (.cons (.eF (.ref (blk:=⟨6,[aD u0,aD v0],false⟩) rfl rfl (by simp [aK,bl.pure]) aW rfl)) (.cons (.eF (.pure (show LV.pure (.bQ 53 ([.ba C,.ba S]:List LV))=true by simpa [LV.pure] using fx))) .nil)))) .ptr aDk aW (fun k hk=>ayG (by intro x hx;simp only [lI,List.map_nil,ff,iq,or_false] at hx;unfold dZ;omega))) ?_
 simp only [tn,ki,hnR,hnC]
 refine aw ?_
 refine bf ?_
 refine bc ?_
 refine ay ?_
 refine dp (b:=_) rfl (rfl) ?_
 refine bC ?_
 refine bc ?_
 refine ay ?_
 refine dp (b:=_) rfl (rfl) ?_
 refine nm ?_
 exact aj3 [1000801] rfl rfl (dH (l:=(tH d w 1 wd lk ([([s0]++[u0,v0],0,aV 3 0)],0,[])).2.2) ajn rfl rfl rfl) rfl (.pure rfl)
def px (f:Rat) (q r:Q4):Q4:=⟨(1-f)*q.x+f*r.x,(1-f)*q.y+f*r.y,(1-f)*q.z+f*r.z,(1-f)*q.w+f*r.w⟩
theorem aC2 {f:Rat} {q r:Q4} {R:Nat} (hq:nB R q) (hr:nB R r) (hf:rl f<=5000) (hR:R<=10000):nB 100000 (px f q r):=by
 have h1:=fD 1 f
 have h0:rl 1=1:=rfl
 have key:∀ x y:Rat,rl x<=R->rl y<=R->rl ((1-f)*x+f*y)<=100000:=fun x y hx hy=>by
  have:=cM (1-f) x
  have:=cM f y
  have:=nZ ((1-f)*x) (f*y)
  omega
 exact⟨key _ _ hq.1 hr.1,key _ _ hq.2.1 hr.2.1,key _ _ hq.2.2.1 hr.2.2.1,key _ _ hq.2.2.2 hr.2.2.2⟩
theorem az6 {a b t:Rat} (cY:a<b) (h1:a<=t) (h2:t<=b):0<=(t-a)/(b-a)/\(t-a)/(b-a)<=1:=by
 have e:(t-a)/(b-a)*(b-a)=t-a:=lD dz
 generalize (t-a)/(b-a)=f at e
 have hb:0<b-a:=by grind
 constructor
 ·refine aeY.1 fun h=>?_
  have:=awO h hb
  grind
 ·refine aeY.1 fun h=>?_
  have:=awO h hb
  grind
theorem aBL {a b t:Rat} {q r:ar} (cY:a<b) (h1:a<=t) (h2:t<=b) (hq:0<q.w) (hr:0<r.w):0<(px ((t-a)/(b-a)) (bW q) (bW r)).w:=by
 obtain⟨f0,f1⟩:=az6 cY h1 h2
 show 0<(1-(t-a)/(b-a))*q.w+(t-a)/(b-a)*r.w
 generalize (t-a)/(b-a)=f at f0 f1
 by_cases h:f=1
 ·rw [h];grind
 ·have:=adr (show 0<1-f by grind) hq
  have:=aa5 f0 (show 0<=r.w by grind)
  grind
theorem aEO {a b t:Rat} (cY:a<b) (ha:rl a<=100) (hb:rl b<=100) (ht:rl t<=1000) (h1:a<=t) (h2:t<=b):ax ak 220 [.list 3 ((aA 1 a b).map aa),ae 1,aa t] (.a9 [ae 1,iL 0]) :=
 azz 1 [a,a,b,b] t 1 (show 4<=1000 by decide) (fun x hx=>by
  simp only [ff,iq,or_false] at hx
  rcases hx with rfl | rfl | rfl | rfl<;>omega) J h1 h2 (show 2<4 by decide) cY (fun i hi h=>by
  obtain rfl:i=0:=by omega
  exact absurd (show a<a from h) dz) (.inr fun i h3 h4 h5=>by
  have h4:i+1<4:=h4
  obtain rfl:i=2:=by omega
  exact absurd (show b<b from h5) dz)
namespace aws
theorem aw {p q:Prop} (k:q) (e:p=q:=by simp only [e1,e2,e3,e4,p1,p2,p3,q1,q2,q3,l1,t0,t1,r1,r2,r3,r4,Nat.zero_add,Nat.reduceMul,Nat.reduceAdd,b1,b2,b3,b4,b5,b6,i1,i2,i3,i4,i5,i6,Nat.reduceBEq,ur,aG dD,zz,List.getD_cons_zero,List.getD_cons_succ,List.set_cons_zero,List.set_cons_succ,Nat.reduceEqDiff,reduceIte,if_true,if_false,cB,dB,aG aX,aG bz,aG an,cA,cC,LV.kill,bH];exact rfl):p:=e.mpr k
end aws
open aws in
theorem aGm (a b t:Rat) (cY:a<b) (ha:rl a<=100) (hb:rl b<=100) (ht:rl t<=1000) (h1:a<=t) (h2:t<=b):ax ak 278 [.list 3 ((aA 1 a b).map aa),ae 1,aa t] (.a9 [ae 0,.list 3 ([(1-((t-a)/(b-a))),((t-a)/(b-a))].map aa),iL 0]):=by
 have hf:rl ((t-a)/(b-a))<=3000:=by
  have:=pH (t-a) (b-a)
  have:=fD t a
  have:=fD b a
  omega
 have hg:rl (1-((t-a)/(b-a)))<=3002:=by
  have:=fD 1 ((t-a)/(b-a))
  have:rl 1=1:=rfl
  omega
 have lE:rl 0=1:=rfl
 have gk:rl 1=1:=rfl
 have hIv:=aEO cY ha hb ht h1 h2
 have hFr:=au0 a b t J cY
 have xR:ax ak 187 [iL 1] (aa 1):=rZ 1 ai ai
 have hM1:ax ak 224 [aa ((t-a)/(b-a)),aa 1] (aa ((t-a)/(b-a))):=by
  have:=ef ((t-a)/(b-a)) 1 J
  rwa [vv] at this
 have hA1:ax ak 111 [aa 0,aa ((t-a)/(b-a))] (aa ((t-a)/(b-a))):=by
  have:=fA 0 ((t-a)/(b-a)) J
  rwa [adX] at this
 have pg:=oW 1 ((t-a)/(b-a)) J
 have hM2:ax ak 224 [aa (1-((t-a)/(b-a))),aa 1] (aa (1-((t-a)/(b-a)))):=by
  have:=ef (1-((t-a)/(b-a))) 1 J
  rwa [vv] at this
 have hA2:ax ak 111 [aa 0,aa (1-((t-a)/(b-a)))] (aa (1-((t-a)/(b-a)))):=by
  have:=fA 0 (1-((t-a)/(b-a))) J
  rwa [adX] at this
 refine aR Tryz.func278 (ht:=(ac6 rfl (cd an 3 _) rfl)) ?_
 refine dk ?_
 refine cp gM (hIv) ?_
 refine df ?_
 refine dp (b:=_) rfl (rfl) ?_
 refine bg ?_
 refine ah (aM (v:=false) rfl rfl ((rfl)) rfl) (.move _) ?_
 refine ah (aM (v:=false) rfl rfl ((rfl)) rfl) (.move _) ?_
 refine ah (aM (v:=false) rfl rfl ((rfl)) rfl) (.bin rfl rfl (aaa om om)) ?_
 refine ah (aM (v:=false) rfl rfl ((rfl)) rfl) (.bin rfl rfl rfl) ?_
 refine ah rfl (.m9 rfl ((rfl))) ?_
 refine ao ?_
 refine ah (aM (v:=false) rfl rfl ((rfl)) rfl) (.move _) ?_
 refine ah (aM (v:=false) rfl rfl ((rfl)) rfl) (.move _) ?_
 refine ah (aM (v:=false) rfl rfl ((rfl)) rfl) (.bin rfl rfl (zj om om)) ?_
 refine ah (aM (v:=false) rfl rfl ((rfl)) rfl) (.move _) ?_
 refine ah (aM (v:=false) rfl rfl ((rfl)) rfl) pM ?_
 refine ah (aM (v:=false) rfl rfl ((rfl)) rfl) (.bin rfl rfl rfl) ?_
 refine ah rfl (.m9 rfl ((rfl))) ?_
 refine aH ?_
 refine dp (b:=_) rfl (rfl) ?_
 refine aB ?_
 refine cp aO (xR) ?_
 refine bC ?_
 refine bc ?_
 refine bg ?_
 refine bI (b:=_) rfl ai ?_
 refine bg ?_
 refine dF rfl rfl (.lf (n:=2) (m:=2) ml ml om om om) ?_
 refine bw ?_
 refine bc ?_
 refine ay ?_
 refine bI (b:=_) rfl ai ?_
 refine ao4 ?_
 refine aY 13 al ?_
 try refine aw ?_
 refine aH ?_
 refine ah rfl (.gD (n:=1) (r:=aa a) rfl dY dC rfl ai rfl (an.av _)) ?_
 refine a7 ?_
 refine ah rfl (.gD (n:=2) (r:=aa b) rfl dY dC rfl ai rfl (an.av _)) ?_
 refine aH ?_
 try refine aw ?_
 refine bM rfl (.cons (.pure (an.pure _)) (.cons (.pure (an.pure _)) (.cons (.pure (an.pure _)) (.nil)))) hFr ?_
 refine a7 ?_
 refine aY 13 al ?_
 refine bh ?_
 try refine aw ?_
 refine cp au (hM1) ?_
 refine cp au (hA1) ?_
 refine ao ?_
 try refine aw ?_
 refine aQ ?_
 refine aY 13 al ?_
 refine ay ?_
 refine cp aO (xR) ?_
 refine ao ?_
 refine cp au (pg) ?_
 refine ao ?_
 try refine aw ?_
 refine cp au (hM2) ?_
 refine cp au (hA2) ?_
 refine ao ?_
 try refine aw ?_
 refine bB ?_
 refine bc ?_
 refine ay ?_
 refine dp (b:=_) rfl ai ?_
 refine iY ?_
 refine bc ?_
 refine bg ?_
 refine dp (b:=_) rfl ai ?_
 refine iY ?_
 exact abN [53] rfl rfl (.pure rfl) rfl (dH (l:=[(1-((t-a)/(b-a))),((t-a)/(b-a))]) an rfl rfl aW) rfl (.pure rfl)
namespace ap9
theorem aw {p q:Prop} (k:q) (e:p=q:=by simp only [e1,e2,e3,e4,p1,p2,p3,q1,q2,q3,l1,t0,t1,r1,r2,r3,r4,Nat.zero_add,Nat.reduceMul,Nat.reduceAdd,b1,b2,b3,b4,b5,b6,i1,i2,i3,i4,i5,i6,Nat.reduceBEq,cy,ur,aG dD,zz,List.getD_cons_zero,List.getD_cons_succ,List.set_cons_zero,List.set_cons_succ,Nat.reduceEqDiff,reduceIte,if_true,if_false,cB,dB,aG aX,aG bz,aG an,cA,cC,LV.kill,bH];exact rfl):p:=e.mpr k
end ap9
open ap9 in
theorem apt (a b t:Rat) (cY:a<b) (ha:rl a<=100) (hb:rl b<=100) (ht:rl t<=1000) (h1:a<=t) (h2:t<=b) (q r:Q4) (R:Nat) (hR:R<=1000000) (hq:nB R q) (hr:nB R r):ax ak 257 [.agg [ae 1,.list 3 ((aA 1 a b).map aa),.list 12 ([q,r].map cy)],aa t] (.a9 [cy (px ((t-a)/(b-a)) q r),iL 0]):=by
 have hf:rl ((t-a)/(b-a))<=3000:=by
  have:=pH (t-a) (b-a)
  have:=fD t a
  have:=fD b a
  omega
 have hg:rl (1-((t-a)/(b-a)))<=3002:=by
  have:=fD 1 ((t-a)/(b-a))
  have:rl 1=1:=rfl
  omega
 have lE:rl 0=1:=rfl
 have gk:rl 1=1:=rfl
 have hpS:LV.pure (.agg [ae 1,.list 3 ((aA 1 a b).map aa),.list 12 ([q,r].map cy)])=true:=by simp [LV.pure,aK,aP an,dD.pure]
 have nH:=cd an 3 (aA 1 a b)
 have nN:([(1-((t-a)/(b-a))),((t-a)/(b-a))]:List Rat).length=2:=rfl
 have hVl:=aGm a b t cY ha hb ht h1 h2
 obtain⟨q1',q2',q3',q4'⟩:=hq
 obtain⟨r1',r2',r3',r4'⟩:=hr
 have hpx:=ef (1-((t-a)/(b-a))) q.x J
 have o5:=ef ((t-a)/(b-a)) r.x J
 have mpx:=cM (1-((t-a)/(b-a))) q.x
 have msx:=cM ((t-a)/(b-a)) r.x
 have hax:ax ak 111 [aa 0,aa ((1-((t-a)/(b-a)))*q.x)] (aa ((1-((t-a)/(b-a)))*q.x)):=by
  have:=fA 0 ((1-((t-a)/(b-a)))*q.x) J
  rwa [adX] at this
 have yh:=fA ((1-((t-a)/(b-a)))*q.x) (((t-a)/(b-a))*r.x) J
 have hpy:=ef (1-((t-a)/(b-a))) q.y J
 have hsy:=ef ((t-a)/(b-a)) r.y J
 have mpy:=cM (1-((t-a)/(b-a))) q.y
 have msy:=cM ((t-a)/(b-a)) r.y
 have hay:ax ak 111 [aa 0,aa ((1-((t-a)/(b-a)))*q.y)] (aa ((1-((t-a)/(b-a)))*q.y)):=by
  have:=fA 0 ((1-((t-a)/(b-a)))*q.y) J
  rwa [adX] at this
 have je:=fA ((1-((t-a)/(b-a)))*q.y) (((t-a)/(b-a))*r.y) J
 have hpz:=ef (1-((t-a)/(b-a))) q.z J
 have bT:=ef ((t-a)/(b-a)) r.z J
 have mpz:=cM (1-((t-a)/(b-a))) q.z
 have msz:=cM ((t-a)/(b-a)) r.z
 have haz:ax ak 111 [aa 0,aa ((1-((t-a)/(b-a)))*q.z)] (aa ((1-((t-a)/(b-a)))*q.z)):=by
  have:=fA 0 ((1-((t-a)/(b-a)))*q.z) J
  rwa [adX] at this
 have hbz:=fA ((1-((t-a)/(b-a)))*q.z) (((t-a)/(b-a))*r.z) J
 have hpw:=ef (1-((t-a)/(b-a))) q.w J
 have zQ:=ef ((t-a)/(b-a)) r.w J
 have mpw:=cM (1-((t-a)/(b-a))) q.w
 have msw:=cM ((t-a)/(b-a)) r.w
 have haw:ax ak 111 [aa 0,aa ((1-((t-a)/(b-a)))*q.w)] (aa ((1-((t-a)/(b-a)))*q.w)):=by
  have:=fA 0 ((1-((t-a)/(b-a)))*q.w) J
  rwa [adX] at this
 have hbw:=fA ((1-((t-a)/(b-a)))*q.w) (((t-a)/(b-a))*r.w) J
 refine aR Tryz.func257 (ht:=(iF (dD.pure _) rfl)) ?_
 refine lF ?_
 try refine aw ?_
 refine bM rfl (.cons (.pure nH) (.cons (.pure rfl) (.cons (.pure (an.pure _)) .nil))) hVl ?_
 refine eQ ?_
 refine ah (aM (v:=false) rfl rfl ((rfl)) rfl) (.move _) ?_
 refine ah (aM (v:=false) rfl rfl ((rfl)) rfl) (.move _) ?_
 refine ah (aM (v:=false) rfl rfl ((rfl)) rfl) pM ?_
 refine ah (aM (v:=false) rfl rfl ((rfl)) rfl) (.bin rfl rfl (zj om om)) ?_
 refine ah (aM (v:=false) rfl rfl ((rfl)) rfl) gr ?_
 refine ah (aM (v:=false) rfl rfl ((rfl)) rfl) dE ?_
 refine ah (aM (v:=false) rfl rfl ((rfl)) rfl) pM ?_
 refine ah (aM (v:=false) rfl rfl ((rfl)) rfl) (.bin rfl rfl rfl) ?_
 refine ah rfl (.m9 rfl ((rfl))) ?_
 refine aH ?_
 refine dp (b:=_) rfl (rfl) ?_
 refine bC ?_
 refine bc ?_
 refine ay ?_
 refine bI (b:=_) rfl (rfl) ?_
 refine lF ?_
 refine bc ?_
 refine ay ?_
 refine bI (b:=_) rfl ai ?_
 refine bh ?_
 refine aY 17 al ?_
 try refine aw ?_
 refine bC ?_
 first | refine ah rfl (.gD (n:=0) (r:=cy q) rfl jv kF rfl ai rfl (dD.av _)) ?_ | refine ah rfl (.gD (n:=1) (r:=cy r) rfl jv kF rfl ai rfl (dD.av _)) ?_
 try refine aw ?_
 refine aH ?_
 try refine aw ?_
 first | refine bM rfl (.cons (.pure (an.pure _)) (.cons (.pure (an.pure _)) (.nil))) hpx ?_ | refine bM rfl (.cons (.pure (an.pure _)) (.cons (.pure (an.pure _)) (.nil))) o5 ?_
 try refine aw ?_
 first | refine bM rfl (.cons (.pure (an.pure _)) (.cons (.pure (an.pure _)) (.nil))) hax ?_ | refine bM rfl (.cons (.pure (an.pure _)) (.cons (.pure (an.pure _)) (.nil))) yh ?_
 refine ao ?_
 try refine aw ?_
 refine bB ?_
 refine bc ?_
 refine ay ?_
 refine bI (b:=_) rfl ai ?_
 refine bh ?_
 refine aY 17 al ?_
 try refine aw ?_
 refine bC ?_
 first | refine ah rfl (.gD (n:=0) (r:=cy q) rfl jv kF rfl ai rfl (dD.av _)) ?_ | refine ah rfl (.gD (n:=1) (r:=cy r) rfl jv kF rfl ai rfl (dD.av _)) ?_
 try refine aw ?_
 refine aH ?_
 try refine aw ?_
 first | refine bM rfl (.cons (.pure (an.pure _)) (.cons (.pure (an.pure _)) (.nil))) hpy ?_ | refine bM rfl (.cons (.pure (an.pure _)) (.cons (.pure (an.pure _)) (.nil))) hsy ?_
 try refine aw ?_
 first | refine bM rfl (.cons (.pure (an.pure _)) (.cons (.pure (an.pure _)) (.nil))) hay ?_ | refine bM rfl (.cons (.pure (an.pure _)) (.cons (.pure (an.pure _)) (.nil))) je ?_
 refine ao ?_
 try refine aw ?_
 refine bB ?_
 refine bc ?_
 refine ay ?_
 refine bI (b:=_) rfl ai ?_
 refine bh ?_
 refine aY 17 al ?_
 try refine aw ?_
 refine bC ?_
 first | refine ah rfl (.gD (n:=0) (r:=cy q) rfl jv kF rfl ai rfl (dD.av _)) ?_ | refine ah rfl (.gD (n:=1) (r:=cy r) rfl jv kF rfl ai rfl (dD.av _)) ?_
 try refine aw ?_
 refine aH ?_
 try refine aw ?_
 first | refine bM rfl (.cons (.pure (an.pure _)) (.cons (.pure (an.pure _)) (.nil))) hpz ?_ | refine bM rfl (.cons (.pure (an.pure _)) (.cons (.pure (an.pure _)) (.nil))) bT ?_
 try refine aw ?_
 first | refine bM rfl (.cons (.pure (an.pure _)) (.cons (.pure (an.pure _)) (.nil))) haz ?_ | refine bM rfl (.cons (.pure (an.pure _)) (.cons (.pure (an.pure _)) (.nil))) hbz ?_
 refine ao ?_
 try refine aw ?_
 refine bB ?_
 refine bc ?_
 refine ay ?_
 refine bI (b:=_) rfl ai ?_
 refine bh ?_
 refine aY 17 al ?_
 try refine aw ?_
 refine bC ?_
 first | refine ah rfl (.gD (n:=0) (r:=cy q) rfl jv kF rfl ai rfl (dD.av _)) ?_ | refine ah rfl (.gD (n:=1) (r:=cy r) rfl jv kF rfl ai rfl (dD.av _)) ?_
 try refine aw ?_
 refine aH ?_
 try refine aw ?_
 first | refine bM rfl (.cons (.pure (an.pure _)) (.cons (.pure (an.pure _)) (.nil))) hpw ?_ | refine bM rfl (.cons (.pure (an.pure _)) (.cons (.pure (an.pure _)) (.nil))) zQ ?_
 try refine aw ?_
 first | refine bM rfl (.cons (.pure (an.pure _)) (.cons (.pure (an.pure _)) (.nil))) haw ?_ | refine bM rfl (.cons (.pure (an.pure _)) (.cons (.pure (an.pure _)) (.nil))) hbw ?_
 refine ao ?_
 try refine aw ?_
 refine bB ?_
 refine bc ?_
 refine ay ?_
 refine dp (b:=_) rfl ai ?_
 refine ay ?_
 refine bR (az.kill _ 11) ?_
 refine aB ?_
 refine bc ?_
 refine ay ?_
 refine bI (b:=_) rfl (rfl) ?_
 refine lF ?_
 refine bc ?_
 refine ay ?_
 refine bI (b:=_) rfl ai ?_
 refine bh ?_
 refine aY 17 al ?_
 try refine aw ?_
 refine bC ?_
 first | refine ah rfl (.gD (n:=0) (r:=cy q) rfl jv kF rfl ai rfl (dD.av _)) ?_ | refine ah rfl (.gD (n:=1) (r:=cy r) rfl jv kF rfl ai rfl (dD.av _)) ?_
 try refine aw ?_
 refine aH ?_
 try refine aw ?_
 first | refine bM rfl (.cons (.pure (an.pure _)) (.cons (.pure (an.pure _)) (.nil))) hpx ?_ | refine bM rfl (.cons (.pure (an.pure _)) (.cons (.pure (an.pure _)) (.nil))) o5 ?_
 try refine aw ?_
 first | refine bM rfl (.cons (.pure (an.pure _)) (.cons (.pure (an.pure _)) (.nil))) hax ?_ | refine bM rfl (.cons (.pure (an.pure _)) (.cons (.pure (an.pure _)) (.nil))) yh ?_
 refine ao ?_
 try refine aw ?_
 refine bB ?_
 refine bc ?_
 refine ay ?_
 refine bI (b:=_) rfl ai ?_
 refine bh ?_
 refine aY 17 al ?_
 try refine aw ?_
 refine bC ?_
 first | refine ah rfl (.gD (n:=0) (r:=cy q) rfl jv kF rfl ai rfl (dD.av _)) ?_ | refine ah rfl (.gD (n:=1) (r:=cy r) rfl jv kF rfl ai rfl (dD.av _)) ?_
 try refine aw ?_
 refine aH ?_
 try refine aw ?_
 first | refine bM rfl (.cons (.pure (an.pure _)) (.cons (.pure (an.pure _)) (.nil))) hpy ?_ | refine bM rfl (.cons (.pure (an.pure _)) (.cons (.pure (an.pure _)) (.nil))) hsy ?_
 try refine aw ?_
 first | refine bM rfl (.cons (.pure (an.pure _)) (.cons (.pure (an.pure _)) (.nil))) hay ?_ | refine bM rfl (.cons (.pure (an.pure _)) (.cons (.pure (an.pure _)) (.nil))) je ?_
 refine ao ?_
 try refine aw ?_
 refine bB ?_
 refine bc ?_
 refine ay ?_
 refine bI (b:=_) rfl ai ?_
 refine bh ?_
 refine aY 17 al ?_
 try refine aw ?_
 refine bC ?_
 first | refine ah rfl (.gD (n:=0) (r:=cy q) rfl jv kF rfl ai rfl (dD.av _)) ?_ | refine ah rfl (.gD (n:=1) (r:=cy r) rfl jv kF rfl ai rfl (dD.av _)) ?_
 try refine aw ?_
 refine aH ?_
 try refine aw ?_
 first | refine bM rfl (.cons (.pure (an.pure _)) (.cons (.pure (an.pure _)) (.nil))) hpz ?_ | refine bM rfl (.cons (.pure (an.pure _)) (.cons (.pure (an.pure _)) (.nil))) bT ?_
 try refine aw ?_
 first | refine bM rfl (.cons (.pure (an.pure _)) (.cons (.pure (an.pure _)) (.nil))) haz ?_ | refine bM rfl (.cons (.pure (an.pure _)) (.cons (.pure (an.pure _)) (.nil))) hbz ?_
 refine ao ?_
 try refine aw ?_
 refine bB ?_
 refine bc ?_
 refine ay ?_
 refine bI (b:=_) rfl ai ?_
 refine bh ?_
 refine aY 17 al ?_
 try refine aw ?_
 refine bC ?_
 first | refine ah rfl (.gD (n:=0) (r:=cy q) rfl jv kF rfl ai rfl (dD.av _)) ?_ | refine ah rfl (.gD (n:=1) (r:=cy r) rfl jv kF rfl ai rfl (dD.av _)) ?_
 try refine aw ?_
 refine aH ?_
 try refine aw ?_
 first | refine bM rfl (.cons (.pure (an.pure _)) (.cons (.pure (an.pure _)) (.nil))) hpw ?_ | refine bM rfl (.cons (.pure (an.pure _)) (.cons (.pure (an.pure _)) (.nil))) zQ ?_
 try refine aw ?_
 first | refine bM rfl (.cons (.pure (an.pure _)) (.cons (.pure (an.pure _)) (.nil))) haw ?_ | refine bM rfl (.cons (.pure (an.pure _)) (.cons (.pure (an.pure _)) (.nil))) hbw ?_
 refine ao ?_
 try refine aw ?_
 refine bB ?_
 refine bc ?_
 refine ay ?_
 refine dp (b:=_) rfl ai ?_
 refine ay ?_
 refine bR (az.kill _ 11) ?_
 refine aB ?_
 refine bc ?_
 refine ay ?_
 refine dp (b:=_) rfl (rfl) ?_
 refine dk ?_
 exact qE [] rfl rfl rfl cs (cr cs rfl) kF (.pure (dD.pure (px ((t-a)/(b-a)) q r))) rfl (.pure rfl)
namespace apL
theorem aw {p q:Prop} (k:q) (e:p=q:=by simp only [e1,e2,e3,e4,p1,p2,p3,q1,q2,q3,l1,t0,t1,r1,r2,r3,r4,Nat.zero_add,Nat.reduceMul,Nat.reduceAdd,b1,b2,b3,b4,b5,b6,i1,i2,i3,i4,i5,i6,Nat.reduceBEq,a5,p9,zh,List.take_succ_cons,List.take_zero,List.cons_append,List.nil_append,zz,ur,aG dD,zz,nW,aG cN,mN,cn,fo,eO,dW,List.length_cons,List.length_nil,List.nil_append,List.map_nil,List.take_nil,List.append_nil,List.set_cons_zero,List.set_cons_succ,Nat.reduceEqDiff,reduceIte,if_true,if_false,cB,dB,aG aX,aG bz,aG an,cA,cC,LV.kill,bH];exact rfl):p:=e.mpr k
end apL
open apL in
theorem aAp (R:Nat) (ua ub va vb t:Rat) (iO iM iD iJ:ar) (h:pf R 1 1 [[iO,iM],[iD,iJ]]) (hR:R<=64) (hu:ua<ub) (hv:va<vb) (z1:rl ua<=64) (z2:rl ub<=64) (z3:rl va<=64) (z4:rl vb<=64) (ht:rl t<=64) (h1:ua<=t) (h2:t<=ub):ax ak 205 [.agg [ae 1,ae 1,.list 3 ((aA 1 ua ub).map aa),.list 3 ((aA 1 va vb).map aa),.list 1 ([[iO,iM],[iD,iJ]].map a5)],aa t] (.a9 [.agg [ae 1,.list 3 ((aA 1 va vb).map aa),.list 12 ([(px ((t-ua)/(ub-ua)) (bW iO) (bW iD)),(px ((t-ua)/(ub-ua)) (bW iM) (bW iJ))].map cy)],iL 0]):=by
 have vk:=mw (d:=1) (show rl ua<=64 by omega) (show rl ub<=64 by omega)
 have tq:=mw (d:=1) (show rl va<=64 by omega) (show rl vb<=64 by omega)
 have ag4:=cd an 3 (aA 1 va vb)
 have jg:LV.pure (.agg [ae 1,ae 1,.list 3 ((aA 1 ua ub).map aa),.list 3 ((aA 1 va vb).map aa),.list 1 ([[iO,iM],[iD,iJ]].map a5)])=true:=by simp [LV.pure,aK,aP an,a5,bz.pure]
 have nx:∀ q∈[[iO,iM],[iD,iJ]].flatten,k5 R q:=h.fok
 have yU:∀ q,k5 R q->nB (2*R) (bW q):=fun q h=>ajd h
 have akj:=yU iO (nx _ aW)
 have ame:=yU iM (nx _ aW)
 have am9:=yU iD (nx _ aW)
 have al5:=yU iJ (nx _ aW)
 have hSd:=anR 1 1 (aA 1 ua ub) (aA 1 va vb) [[iO,iM],[iD,iJ]] (acv ai ai hu z1 z2) (acv ai ai hv z3 z4) rfl (fun r hr=>by rw [h.m r hr,gW]) (fun r hr q hq=>(h.ok r hr q hq).le hR)
 have zw:ax ak 143 [.agg [ae 1,ae 1,.list 3 ((aA 1 ua ub).map aa),.list 3 ((aA 1 va vb).map aa),.list 1 ([[iO,iM],[iD,iJ]].map a5)]] (.list 3 [hZ 1 (aA 1 ua ub) [bW iO,bW iD],hZ 1 (aA 1 ua ub) [bW iM,bW iJ]]):=auC R 1 1 (aA 1 ua ub) (aA 1 va vb) [[iO,iM],[iD,iJ]] h (by rw [gW];decide) (by rw [gW];decide) (fun x hx=>bb (vk x hx) ai) (fun x hx=>bb (tq x hx) ai) J
 have hE0:=apt ua ub t hu J J J h1 h2 (bW iO) (bW iD) (2*R) J akj am9
 have hE1:=apt ua ub t hu J J J h1 h2 (bW iM) (bW iJ) (2*R) J ame al5
 have dx:=(l5 1 (aA 1 ua ub)).pure [bW iO,bW iD]
 have il:=(l5 1 (aA 1 ua ub)).pure [bW iM,bW iJ]
 generalize (px ((t-ua)/(ub-ua)) (bW iO) (bW iD))=m0 at hE0 ⊢
 generalize (px ((t-ua)/(ub-ua)) (bW iM) (bW iJ))=m1 at hE1 ⊢
 refine aR Tryz.func205 (ht:=(iF (by simp [LV.pure,aK,aP an,dD.pure]) rfl)) ?_
 refine bC ?_
 refine ah rfl (.dU rfl rfl rfl rfl cs (cr cs rfl) nd) ?_
 refine bM rfl (.cons (.pure jg) (.nil)) hSd ?_
 refine aQ ?_
 refine dp (b:=_) rfl (rfl) ?_
 refine bg ?_
 try refine aw ?_
 refine bg ?_
 try refine aw ?_
 refine ah rfl (.dU rfl rfl rfl rfl cs (cr cs rfl) nd) ?_
 refine bM rfl (.cons (.pure jg) (.nil)) zw ?_
 refine a7 ?_
 refine bc ?_
 refine ay ?_
 refine bI (b:=_) rfl (rfl) ?_
 refine ay ?_
 refine ah rfl (.gD rfl acH qz rfl ai rfl ((l5 1 (aA 1 ua ub)).av _)) ?_
 refine ah rfl (.l9 rfl dx rfl rfl) ?_
 refine ao ?_
 try refine aw ?_
 refine a7 ?_
 try refine aw ?_
 refine ah rfl (.dU (b:=8) (sz:=3) (i:=0) (o:=0) (x:=hZ 1 (aA 1 ua ub) [bW iO,bW iD]) (r:=hZ 1 (aA 1 ua ub) [bW iO,bW iD]) (n:=3) (ag:=true) rfl rfl rfl rfl rfl (cr rfl rfl) qz) ?_
 refine ao ?_
 try refine aw ?_
 refine bM rfl (.cons (.pure dx) (.cons (.pure (an.pure _)) (.nil))) hE0 ?_
 refine eQ ?_
 refine dp (b:=_) rfl (rfl) ?_
 refine aB ?_
 try refine aw ?_
 refine aQ ?_
 try refine aw ?_
 refine bO rfl (.xG (d:=41) (news:=[cy m0]) rfl rfl jv jv abl kF cs afV (.inl ⟨40,0,_,rfl,rfl,rfl,by simp,rfl,by simp [aK,dD.pure]⟩) aW aW aW ai) ?_
 refine ao ?_
 try refine aw ?_
 refine aB ?_
 refine bR (((az.kill _ 8).trans (az.kill _ 9)).trans (az.kill _ 40)) ?_
 refine aB ?_
 refine bc ?_
 refine ay ?_
 refine bI (b:=_) rfl (rfl) ?_
 refine ay ?_
 refine ah rfl (.gD rfl acH qz rfl ai rfl ((l5 1 (aA 1 ua ub)).av _)) ?_
 refine ah rfl (.l9 rfl il rfl rfl) ?_
 refine ao ?_
 try refine aw ?_
 refine a7 ?_
 try refine aw ?_
 refine ah rfl (.dU (b:=8) (sz:=3) (i:=0) (o:=0) (x:=hZ 1 (aA 1 ua ub) [bW iM,bW iJ]) (r:=hZ 1 (aA 1 ua ub) [bW iM,bW iJ]) (n:=3) (ag:=true) rfl rfl rfl rfl rfl (cr rfl rfl) qz) ?_
 refine ao ?_
 try refine aw ?_
 refine bM rfl (.cons (.pure il) (.cons (.pure (an.pure _)) (.nil))) hE1 ?_
 refine eQ ?_
 refine dp (b:=_) rfl (rfl) ?_
 refine aB ?_
 try refine aw ?_
 refine aQ ?_
 try refine aw ?_
 refine bO rfl (.fV (d:=41) (news:=[cy m1]) rfl rfl rfl rfl aW (.inl rfl) ai jv jv abl kF cs afV (.inl ⟨40,0,_,rfl,by decide,rfl,rfl,by simp,rfl,by simp [aK,dD.pure]⟩) aW aW ai) ?_
 refine ao ?_
 try refine aw ?_
 refine aB ?_
 refine bR (((az.kill _ 8).trans (az.kill _ 9)).trans (az.kill _ 40)) ?_
 refine aB ?_
 refine bc ?_
 refine ay ?_
 refine dp (b:=_) rfl (rfl) ?_
 refine bg ?_
 try refine aw ?_
 refine a7 ?_
 exact qE [41] rfl rfl rfl rfl (cr rfl rfl) qz (.agg (.cons (.pure rfl) (.cons (.pure ag4) (.cons (dH (l:=[m0,m1]) dD rfl rfl aW) .nil)))) rfl (.pure rfl)
namespace am6
theorem aw {p q:Prop} (k:q) (e:p=q:=by simp only [e1,e2,e3,e4,p1,p2,p3,q1,q2,q3,l1,t0,t1,r1,r2,r3,r4,Nat.zero_add,Nat.reduceMul,Nat.reduceAdd,b1,b2,b3,b4,b5,b6,i1,i2,i3,i4,i5,i6,Nat.reduceBEq,a5,p9,zh,List.take_succ_cons,List.take_zero,List.cons_append,List.nil_append,ur,aG dD,zz,nW,aG cN,mN,cn,fo,eO,dW,List.length_cons,List.length_nil,List.nil_append,List.map_nil,List.take_nil,List.append_nil,List.set_cons_zero,List.set_cons_succ,Nat.reduceEqDiff,reduceIte,if_true,if_false,cB,dB,aG aX,aG bz,aG an,cA,cC,LV.kill,bH];exact rfl):p:=e.mpr k
end am6
open am6 in
theorem akM (R:Nat) (ua ub va vb t:Rat) (iO iM iD iJ:ar) (h:pf R 1 1 [[iO,iM],[iD,iJ]]) (hR:R<=64) (hu:ua<ub) (hv:va<vb) (z1:rl ua<=64) (z2:rl ub<=64) (z3:rl va<=64) (z4:rl vb<=64) (ht:rl t<=64) (h1:ua<=t) (h2:t<=ub):ax ak 121 [.agg [ae 1,ae 1,.list 3 ((aA 1 ua ub).map aa),.list 3 ((aA 1 va vb).map aa),.list 1 ([[iO,iM],[iD,iJ]].map a5)],aa t] (.a9 [.agg [ae 1,.list 3 ((aA 1 va vb).map aa),.list 12 ([jl (px ((t-ua)/(ub-ua)) (bW iO) (bW iD)),jl (px ((t-ua)/(ub-ua)) (bW iM) (bW iJ))].map bm)],iL 0]):=by
 have vk:=mw (d:=1) (show rl ua<=64 by omega) (show rl ub<=64 by omega)
 have tq:=mw (d:=1) (show rl va<=64 by omega) (show rl vb<=64 by omega)
 have ag4:=cd an 3 (aA 1 va vb)
 have jg:LV.pure (.agg [ae 1,ae 1,.list 3 ((aA 1 ua ub).map aa),.list 3 ((aA 1 va vb).map aa),.list 1 ([[iO,iM],[iD,iJ]].map a5)])=true:=by simp [LV.pure,aK,aP an,a5,bz.pure]
 have nx:∀ q∈[[iO,iM],[iD,iJ]].flatten,k5 R q:=h.fok
 have yU:∀ q,k5 R q->nB (2*R) (bW q):=fun q h=>ajd h
 have akj:=yU iO (nx _ aW)
 have ame:=yU iM (nx _ aW)
 have am9:=yU iD (nx _ aW)
 have al5:=yU iJ (nx _ aW)
 have pE:=aAp R ua ub va vb t iO iM iD iJ h hR hu hv z1 z2 z3 z4 ht h1 h2
 have hCV:=aap (aA 1 va vb) (by rw [gW];decide) (fun x hx=>bb (tq x hx) ai)
 have hm:∀ q r:Q4,nB (2*R) q->nB (2*R) r->nB 100000 (px ((t-ua)/(ub-ua)) q r):=fun q r hq hr=>aC2 hq hr (by have:=pH (t-ua) (ub-ua);have:=fD t ua;have:=fD ub ua;omega) J
 have hw:∀ q r:ar,k5 R q->k5 R r->0<(px ((t-ua)/(ub-ua)) (bW q) (bW r)).w:=fun q r hq hr=>aBL hu h1 h2 hq.2.2 hr.2.2
 have k0:=hm _ _ akj am9
 have k1:=hm _ _ ame al5
 have w0:=hw iO iD (nx _ aW) (nx _ aW)
 have w1:=hw iM iJ (nx _ aW) (nx _ aW)
 generalize (px ((t-ua)/(ub-ua)) (bW iO) (bW iD))=m0 at pE k0 w0 ⊢
 generalize (px ((t-ua)/(ub-ua)) (bW iM) (bW iJ))=m1 at pE k1 w1 ⊢
 have hF0:ax ak 112 [cy m0] (bm (jl m0)):=ae4 _ _ _ _ 100000 ai k0.1 k0.2.1 k0.2.2.1 k0.2.2.2 w0
 have hF1:ax ak 112 [cy m1] (bm (jl m1)):=ae4 _ _ _ _ 100000 ai k1.1 k1.2.1 k1.2.2.1 k1.2.2.2 w1
 refine aR Tryz.func121 (ht:=(iF (by simp [LV.pure,aK,aP an,bz.pure]) rfl)) ?_
 refine bh ?_
 refine ah rfl (.dU rfl rfl rfl rfl cs (cr cs rfl) nd) ?_
 refine ao ?_
 refine bM rfl (.cons (.pure jg) (.cons (.pure (an.pure _)) (.nil))) pE ?_
 refine aB ?_
 try refine aw ?_
 refine bC ?_
 refine dp (b:=_) rfl (rfl) ?_
 refine aQ ?_
 refine aY 7 al ?_
 refine aB ?_
 try refine aw ?_
 refine cp aO (hCV) ?_
 refine eQ ?_
 refine bc ?_
 refine ay ?_
 refine bI (b:=_) rfl (rfl) ?_
 refine bw ?_
 refine aY 5 al ?_
 refine ao ?_
 try refine aw ?_
 refine aH ?_
 try refine aw ?_
 refine bM rfl (.cons (.pure (dD.pure _)) (.nil)) hF0 ?_
 refine ao ?_
 try refine aw ?_
 refine bO rfl (.xG (d:=39) (news:=[bm (jl m0)]) rfl rfl kj kj pz mO cs abO (.inl ⟨38,0,_,rfl,rfl,rfl,by simp,rfl,by simp [aK,bz.pure]⟩) aW aW aW ai) ?_
 refine ao ?_
 try refine aw ?_
 refine aB ?_
 refine bR ((az.kill _ 10).trans (az.kill _ 38)) ?_
 refine aB ?_
 refine bc ?_
 refine ay ?_
 refine bI (b:=_) rfl (rfl) ?_
 refine bw ?_
 refine aY 5 al ?_
 refine ao ?_
 try refine aw ?_
 refine aH ?_
 try refine aw ?_
 refine bM rfl (.cons (.pure (dD.pure _)) (.nil)) hF1 ?_
 refine ao ?_
 try refine aw ?_
 refine bO rfl (.fV (d:=39) (news:=[bm (jl m1)]) rfl rfl rfl rfl aW (.inl rfl) ai kj kj pz mO cs abO (.inl ⟨38,0,_,rfl,by decide,rfl,rfl,by simp,rfl,by simp [aK,bz.pure]⟩) aW aW ai) ?_
 refine ao ?_
 try refine aw ?_
 refine aB ?_
 refine bR ((az.kill _ 10).trans (az.kill _ 38)) ?_
 refine aB ?_
 refine bc ?_
 refine ay ?_
 refine dp (b:=_) rfl (rfl) ?_
 refine bg ?_
 try refine aw ?_
 refine a7 ?_
 exact qE [39] rfl rfl rfl rfl (cr rfl rfl) ob (.agg (.cons (.pure rfl) (.cons (.pure ag4) (.cons (dH (l:=[jl m0,jl m1]) bz rfl rfl aW) .nil)))) rfl (.pure rfl)
open am6 in
theorem arF (R:Nat) (ua ub va vb t:Rat) (iO iM iD iJ:ar) (h:pf R 1 1 [[iO,iM],[iD,iJ]]) (hR:R<=64) (hu:ua<ub) (hv:va<vb) (z1:rl ua<=64) (z2:rl ub<=64) (z3:rl va<=64) (z4:rl vb<=64) (ht:rl t<=64) (h1:va<=t) (h2:t<=vb):ax ak 122 [.agg [ae 1,ae 1,.list 3 ((aA 1 ua ub).map aa),.list 3 ((aA 1 va vb).map aa),.list 1 ([[iO,iM],[iD,iJ]].map a5)],aa t] (.a9 [.agg [ae 1,.list 3 ((aA 1 ua ub).map aa),.list 12 ([jl (px ((t-va)/(vb-va)) (bW iO) (bW iM)),jl (px ((t-va)/(vb-va)) (bW iD) (bW iJ))].map bm)],iL 0]):=by
 have vk:=mw (d:=1) (show rl ua<=64 by omega) (show rl ub<=64 by omega)
 have tq:=mw (d:=1) (show rl va<=64 by omega) (show rl vb<=64 by omega)
 have ag4:=cd an 3 (aA 1 va vb)
 have jg:LV.pure (.agg [ae 1,ae 1,.list 3 ((aA 1 ua ub).map aa),.list 3 ((aA 1 va vb).map aa),.list 1 ([[iO,iM],[iD,iJ]].map a5)])=true:=by simp [LV.pure,aK,aP an,a5,bz.pure]
 have zQ:LV.pure (.agg [ae 1,ae 1,.list 3 ((aA 1 va vb).map aa),.list 3 ((aA 1 ua ub).map aa),.list 1 ([[iO,iD],[iM,iJ]].map a5)])=true:=by simp [LV.pure,aK,aP an,a5,bz.pure]
 have hSw:ax ak 84 [.agg [ae 1,ae 1,.list 3 ((aA 1 ua ub).map aa),.list 3 ((aA 1 va vb).map aa),.list 1 ([[iO,iM],[iD,iJ]].map a5)]] (.agg [ae 1,ae 1,.list 3 ((aA 1 va vb).map aa),.list 3 ((aA 1 ua ub).map aa),.list 1 ([[iO,iD],[iM,iJ]].map a5)]):=am8 R 1 1 (aA 1 ua ub) (aA 1 va vb) [[iO,iM],[iD,iJ]] h (by rw [gW];decide) (by rw [gW];decide) (fun x hx=>bb (vk x hx) ai) (fun x hx=>bb (tq x hx) ai) J
 have pE:=akM R va vb ua ub t iO iD iM iJ (anz h) hR hv hu z3 z4 z1 z2 ht h1 h2
 refine aR Tryz.func122 (ht:=(iF (by simp [LV.pure,aK,aP an,bz.pure]) rfl)) ?_
 refine bB ?_
 refine aY 6 al ?_
 try refine aw ?_
 refine ah rfl (.dU rfl rfl rfl rfl cs (cr cs rfl) nd) ?_
 refine bM rfl (.cons (.pure jg) (.nil)) hSw ?_
 refine ao ?_
 try refine aw ?_
 refine bM rfl (.cons (.pure zQ) (.cons (.pure (an.pure _)) (.nil))) pE ?_
 refine aH ?_
 try refine aw ?_
 refine a7 ?_
 exact qE [] rfl rfl rfl rfl (cr rfl rfl) ob (.pure (by simp [LV.pure,aK,aP an,bz.pure])) rfl (.pure rfl)
namespace awk
theorem aw {p q:Prop} (k:q) (e:p=q:=by simp only [e1,e2,e3,e4,p1,p2,p3,q1,q2,q3,l1,t0,t1,r1,r2,r3,r4,Nat.zero_add,Nat.reduceMul,Nat.reduceAdd,b1,b2,b3,b4,b5,b6,i1,i2,i3,i4,i5,i6,Nat.reduceBEq,p9,zh,hda,tY,List.getD_cons_zero,List.getD_cons_succ,List.length_map,Nat.reduceSub,fo,eO,dW,List.length_cons,List.length_nil,List.nil_append,List.map_nil,List.take_nil,List.append_nil,nW,aG cN,mN,cn,fo,eO,dW,List.length_cons,List.length_nil,List.nil_append,List.map_nil,List.take_nil,List.append_nil,List.set_cons_zero,List.set_cons_succ,Nat.reduceEqDiff,reduceIte,if_true,if_false,cB,dB,aG aX,aG bz,aG an,cA,cC,LV.kill,bH];exact rfl):p:=e.mpr k
end awk
open awk in
theorem aGV (R U V:Nat) (ua ub va vb:Rat) (rows:List (List ar)) (h:pf R U V rows) (hR:R<=64) (hu:ua<ub) (hv:va<vb) (h1:rl ua<=64) (h2:rl ub<=64) (h3:rl va<=64) (h4:rl vb<=64) (hCs:ax ak 39 [.agg [ae U,ae V,.list 3 ((aA U ua ub).map aa),.list 3 ((aA V va vb).map aa),.list 1 (rows.map a5)],aD (ua,ub),aD (va,vb)] (.a9 [.agg [ae U,ae V,.list 3 ((aA U ua ub).map aa),.list 3 ((aA V va vb).map aa),.list 1 (rows.map a5)],iL 0])):ax ak 35 [.agg [ae U,ae V,.list 3 ((aA U ua ub).map aa),.list 3 ((aA V va vb).map aa),.list 1 (rows.map a5)]] (.list 5 [.agg [ae U,ae V,.list 3 ((aA U ua ub).map aa),.list 3 ((aA V va vb).map aa),.list 1 (rows.map a5)]]):=by
 have jg:LV.pure (.agg [ae U,ae V,.list 3 ((aA U ua ub).map aa),.list 3 ((aA V va vb).map aa),.list 1 (rows.map a5)])=true:=by simp [LV.pure,aK,aP an,aP cN]
 have qw:aK [.agg [ae U,ae V,.list 3 ((aA U ua ub).map aa),.list 3 ((aA V va vb).map aa),.list 1 (rows.map a5)]]=true:=by simp [aK,LV.pure,aP an,aP cN]
 have rJ:=h.u1
 have lV:=h.u3
 have yP:=h.v1
 have ny:=h.v3
 have xZ:=gW U ua ub
 have uY:=gW V va vb
 have uI:=h.n
 have hSd:=anR U V (aA U ua ub) (aA V va vb) rows (acv rJ J hu h1 h2) (acv yP J hv h3 h4) J (fun r hr=>by rw [h.m r hr,uY];omega) (fun r hr q hq=>(h.ok r hr q hq).le hR)
 have hC:=hCs
 have hda:dy (aA U ua ub) (aA U ua ub).length=[ua,ub]:=ax2 hu
 have tY:dy (aA V va vb) (aA V va vb).length=[va,vb]:=ax2 hv
 have hDa:=aii (aA U ua ub) J J (fun x hx=>bb (mw h1 h2 x hx) ai)
 have hDb:=aii (aA V va vb) J J (fun x hx=>bb (mw h3 h4 x hx) ai)
 have pg:=xN ua ub J
 rw [ajx hu,ahV hu] at pg
 have zT:=xN va vb J
 rw [ajx hv,ahV hv] at zT
 refine aR Tryz.func35 (ht:=(fun g=>LV.cQ g _ aaN)) ?_
 refine bh ?_
 refine cp aO (hSd) ?_
 refine aQ ?_
 refine dp (b:=_) rfl (rfl) ?_
 refine bg ?_
 refine aY 8 al ?_
 refine aH ?_
 refine cp aO (hDa) ?_
 refine aH ?_
 refine cp aO (hDb) ?_
 refine df ?_
 refine bc ?_
 refine ay ?_
 refine bI (b:=_) rfl (rfl) ?_
 refine nc ?_
 refine bc ?_
 refine ay ?_
 refine bI (b:=_) rfl (rfl) ?_
 refine bC ?_
 refine eZ 26 [24] al ?_
 refine bh ?_
 refine aw ?_
 refine cp au (pg) ?_
 refine bB ?_
 refine aw ?_
 refine cp au (zT) ?_
 refine cp gM (hC) ?_
 refine bC ?_
 refine aw ?_
 refine dF rfl rfl (yo (z:=.agg [.v (.int .i64 0),.v (.int .i64 0),.v (.slice none 0 0),.v (.slice none 0 0),.v (.slice none 0 0)]) (v:=.agg [ae U,ae V,.list 3 ((aA U ua ub).map aa),.list 3 ((aA V va vb).map aa),.list 1 (rows.map a5)]) ahe Z29 rfl rfl nd rfl rfl rfl jg ai ai) ?_
 refine bO rfl (.xG (d:=59) (sz:=5) (news:=[.agg [ae U,ae V,.list 3 ((aA U ua ub).map aa),.list 3 ((aA V va vb).map aa),.list 1 (rows.map a5)]]) (z:=.agg [.v (.int .i64 0),.v (.int .i64 0),.v (.slice none 0 0),.v (.slice none 0 0),.v (.slice none 0 0)]) rfl rfl ahe ahe Z29 nd rfl B29 (.inl ⟨58,0,_,rfl,rfl,rfl,by simp,rfl,qw⟩) aW aW aW ai) ?_
 refine bB ?_
 refine bc ?_
 refine ay ?_
 refine dp (b:=_) rfl (rfl) ?_
 refine bC ?_
 refine bc ?_
 refine ay ?_
 refine dp (b:=_) rfl (rfl) ?_
 refine bw ?_
 exact lW [59] rfl rfl (abV rfl rfl qw aW)
theorem uQ8 {s:Rat} (h:kA 3 s) (h0:0<=s) (h1:s<=1):uQ 8 s:=aj5 h h0 h1
theorem aAQ (s:Sp):jR 0 1 s=s:=by
 have e:∀ x:Rat,0+(1-0)*x=x:=fun x=>by grind
 show ((0+(1-0)*s.1,0+(1-0)*s.2):Sp)=s
 rw [e,e]
theorem aaY (x:Rat):(x-0)/(1-0)=x:=by
 rw [show (1:Rat)-0=1 by decide +kernel,show x-0=x by grind,qh,show (1:Rat)⁻¹=1 by decide +kernel,vv]
theorem aq3:16800*(2 ^ 3) ^ 1<4294967296 ^ 100/\840*(2 ^ 3) ^ 1<4294967296 ^ 100:=by decide +kernel
theorem ahy {x:Rat} (h:ik 840 16800 x):rl x<=1:=h.rl ai ai ai ai
theorem avq {x y:Rat} (hx:ik 840 16800 x) (hy:ik 840 16800 y):pcK ⟨1,0,1,uP x y (0,1)⟩ 3 840 16800:=by
 have rx:=ahy hx
 have ry:=ahy hy
 have c1:ik 840 16800 1:=⟨840,by decide +kernel,by decide⟩
 have cm:ik 840 16800 (-1):=⟨-840,by decide +kernel,by decide⟩
 have c0:ik 840 16800 0:=⟨0,by decide +kernel,by decide⟩
 have o:∀ {z:Rat},ik 840 16800 z->ik 840 16800 (1*z):=fun h=>by rw [tu];exact h
 have r1:rl 1=1:=rfl
 have rm:rl (-1)=1:=by decide +kernel
 have gd:∀ {a b:Rat},ik 840 16800 a->ik 840 16800 b->∀ i,i<=1->ik 840 16800 ([a,b].getD i 0):=fun ha hb i hi=>by
  have:i=0\/i=1:=by omega
  rcases this with rfl | rfl
  ·exact ha
  ·exact hb
 have hu:=auH x y
 refine⟨(by decide:(1:Nat)<=3),(by decide +kernel:(0:Rat)<1),(by decide +kernel:rl 0<=30),(by decide +kernel:rl 1<=30),⟨rfl,(by decide:(1:Nat)<=1),(by decide:(1:Nat)<=6),?_⟩,⟨fun k=>?_,?_⟩,by decide,aq3.1,aq3.2⟩
 ·show ∀ q∈uP x y (0,1),k5 1000 q
  rw [hu]
  intro q hq
  simp only [ff,iq,or_false] at hq
  rcases hq with rfl | rfl
  ·exact⟨⟨by show rl x<=_;omega,by show rl y<=_;omega,by show rl (-1)<=_;omega⟩,by show rl 1<=_;omega,by show (0:Rat)<1;decide +kernel⟩
  ·exact⟨⟨by show rl x<=_;omega,by show rl y<=_;omega,by show rl 1<=_;omega⟩,by show rl 1<=_;omega,by show (0:Rat)<1;decide +kernel⟩
 ·show ∀ i,i<=1->ik 840 16800 ((bn (uP x y (0,1)) k).getD i 0)
  rw [hu]
  match k with
  | 0=>exact gd (o hx) (o hx)
  | 1=>exact gd (o hy) (o hy)
  | k+2=>exact gd (o cm) (o c1)
 ·show ∀ i,i<=1->ik 840 16800 ((aZ (uP x y (0,1))).getD i 0)
  rw [hu]
  exact gd c1 c1
theorem aHq (x y:Rat) {s:Sp} (h:s.1<1):kO ⟨1,0,1,uP x y (0,1)⟩ s=uP x y s:=by
 show nS (uP x y (0,1)) ((s.1-0)/(1-0)) ((s.2-0)/(1-0))=_
 rw [aaY,aaY]
 exact aAC x y h
theorem acp {u v:Sp} (hu:eY 3 u) (hv:eY 3 v):pf 1 1 1 (eJ u v):=by
 have a:=hu.rl ai
 have b:=hv.rl ai
 have r0:rl 0<=1:=by decide +kernel
 have r1:rl 1<=1:=by decide +kernel
 have p1:(0:Rat)<1:=by decide +kernel
 refine⟨by decide,by decide,by decide,by decide,by decide,by decide,rfl,fun r hr=>?_,fun r hr q hq=>?_⟩
 ·have hr:r∈[[(⟨⟨u.1,v.1,0⟩,1⟩:ar),⟨⟨u.1,v.2,0⟩,1⟩],[⟨⟨u.2,v.1,0⟩,1⟩,⟨⟨u.2,v.2,0⟩,1⟩]]:=hr
  simp only [ff,iq,or_false] at hr
  rcases hr with rfl | rfl<;>rfl
 ·have hr:r∈[[(⟨⟨u.1,v.1,0⟩,1⟩:ar),⟨⟨u.1,v.2,0⟩,1⟩],[⟨⟨u.2,v.1,0⟩,1⟩,⟨⟨u.2,v.2,0⟩,1⟩]]:=hr
  simp only [ff,iq,or_false] at hr
  rcases hr with rfl | rfl<;>simp only [ff,iq,or_false] at hq<;>rcases hq with rfl | rfl
  ·exact⟨⟨a.1,b.1,r0⟩,r1,p1⟩
  ·exact⟨⟨a.1,b.2,r0⟩,r1,p1⟩
  ·exact⟨⟨a.2,b.1,r0⟩,r1,p1⟩
  ·exact⟨⟨a.2,b.2,r0⟩,r1,p1⟩
theorem avA {u v:Sp} (hu:eY 3 u) (hv:eY 3 v):ax ak 39 [.agg [ae 1,ae 1,.list 3 ((aA 1 0 1).map aa),.list 3 ((aA 1 0 1).map aa),.list 1 ((eJ (0,1) (0,1)).map a5)],aD u,aD v] (.a9 [.agg [ae 1,ae 1,.list 3 ((aA 1 u.1 u.2).map aa),.list 3 ((aA 1 v.1 v.2).map aa),.list 1 ((eJ u v).map a5)],iL 0]):=by
 obtain⟨d1,d2,d3,d4,d5⟩:=hu
 obtain⟨f1,f2,f3,f4,f5⟩:=hv
 have ru:=(show eY 3 u from ⟨d1,d2,d3,d4,d5⟩).rl ai
 have rv:=(show eY 3 v from ⟨f1,f2,f3,f4,f5⟩).rl ai
 have r0:rl 0=1:=rfl
 have r1:rl 1=1:=rfl
 obtain⟨h1,h2,h3⟩:=aD8 (E:=8) (k:=1) aEV ai ai ai ai ai ai (ua:=0) (ub:=1) (va:=0) (vb:=1) (a:=u.1) (b:=u.2) (c:=v.1) (e:=v.2) (s:=u.1) (t:=u.2) (s':=v.1) (t':=v.2)
  al al J J J J d4 f4 d3 d5 f3 f5 J J J J (aaY _) (aaY _) (aaY _) (aaY _)
  ⟨d3,by grind⟩ ⟨by grind,d5⟩ ⟨f3,by grind⟩ ⟨by grind,f5⟩ (uQ8 d1 d3 dz) (uQ8 d2 dz d5) (uQ8 f1 f3 dz) (uQ8 f2 dz f5) ai ai ai ai
 have:=aHA h2 (u:=u) (v:=v) fun k i j hi hj=>(h3 k i j hi hj).trans (aAH u v k i j hi hj)
 rw [this] at h1
 exact h1
theorem ah5 (q r:Q4):px 0 q r=q:=by
 obtain⟨a,b,c,d⟩:=q
 have e:∀ x y:Rat,(1-0)*x+0*y=x:=fun x y=>by grind
 show (⟨(1-0)*a+0*r.x,(1-0)*b+0*r.y,(1-0)*c+0*r.z,(1-0)*d+0*r.w⟩:Q4)=_
 rw [e,e,e,e]
theorem ajw (q r:Q4):px 1 q r=r:=by
 obtain⟨a,b,c,d⟩:=r
 have e:∀ x y:Rat,(1-1)*x+1*y=y:=fun x y=>by grind
 show (⟨(1-1)*q.x+1*a,(1-1)*q.y+1*b,(1-1)*q.z+1*c,(1-1)*q.w+1*d⟩:Q4)=_
 rw [e,e,e,e]
theorem aal (p:V3):jl (bW ⟨p,1⟩)=⟨p,1⟩:=by
 have e:∀ x:Rat,1*x/1=x:=fun x=>by rw [tu,qh,show (1:Rat)⁻¹=1 by decide +kernel,vv]
 show (⟨⟨1*p.x/1,1*p.y/1,1*p.z/1⟩,1⟩:ar)=_
 rw [e,e,e]
theorem dv0 {s:Sp} (h:s.1<s.2):(s.1-s.1)/(s.2-s.1)=0/\(s.2-s.1)/(s.2-s.1)=1:=by
 constructor
 ·rw [show s.1-s.1=0 by grind,qh,Rat.zero_mul]
 ·rw [qh];exact axG _ dz
theorem ays {u v:Sp} (hu:eY 3 u) (hv:eY 3 v):ax ak 121 [.agg [ae 1,ae 1,.list 3 ((aA 1 u.1 u.2).map aa),.list 3 ((aA 1 v.1 v.2).map aa),.list 1 ((eJ u v).map a5)],aa u.1] (.a9 [.agg [ae 1,.list 3 ((aA 1 v.1 v.2).map aa),.list 12 ((yn u v).map bm)],iL 0]):=by
 have ru:=hu.rl ai
 have rv:=hv.rl ai
 have h:=akM 1 u.1 u.2 v.1 v.2 u.1 ⟨⟨u.1,v.1,0⟩,1⟩ ⟨⟨u.1,v.2,0⟩,1⟩ ⟨⟨u.2,v.1,0⟩,1⟩ ⟨⟨u.2,v.2,0⟩,1⟩ (acp hu hv) ai hu.2.2.2.1 hv.2.2.2.1 J J J J J (nI) (mZ hu.2.2.2.1)
 rw [(dv0 hu.2.2.2.1).1,ah5,ah5,aal,aal] at h
 exact h
theorem aEq {u v:Sp} (hu:eY 3 u) (hv:eY 3 v):ax ak 121 [.agg [ae 1,ae 1,.list 3 ((aA 1 u.1 u.2).map aa),.list 3 ((aA 1 v.1 v.2).map aa),.list 1 ((eJ u v).map a5)],aa u.2] (.a9 [.agg [ae 1,.list 3 ((aA 1 v.1 v.2).map aa),.list 12 ((xI u v).map bm)],iL 0]):=by
 have ru:=hu.rl ai
 have rv:=hv.rl ai
 have h:=akM 1 u.1 u.2 v.1 v.2 u.2 ⟨⟨u.1,v.1,0⟩,1⟩ ⟨⟨u.1,v.2,0⟩,1⟩ ⟨⟨u.2,v.1,0⟩,1⟩ ⟨⟨u.2,v.2,0⟩,1⟩ (acp hu hv) ai hu.2.2.2.1 hv.2.2.2.1 J J J J J (mZ hu.2.2.2.1) (nI)
 rw [(dv0 hu.2.2.2.1).2,ajw,ajw,aal,aal] at h
 exact h
theorem azT {u v:Sp} (hu:eY 3 u) (hv:eY 3 v):ax ak 122 [.agg [ae 1,ae 1,.list 3 ((aA 1 u.1 u.2).map aa),.list 3 ((aA 1 v.1 v.2).map aa),.list 1 ((eJ u v).map a5)],aa v.1] (.a9 [.agg [ae 1,.list 3 ((aA 1 u.1 u.2).map aa),.list 12 ((rwC u v).map bm)],iL 0]):=by
 have ru:=hu.rl ai
 have rv:=hv.rl ai
 have h:=arF 1 u.1 u.2 v.1 v.2 v.1 ⟨⟨u.1,v.1,0⟩,1⟩ ⟨⟨u.1,v.2,0⟩,1⟩ ⟨⟨u.2,v.1,0⟩,1⟩ ⟨⟨u.2,v.2,0⟩,1⟩ (acp hu hv) ai hu.2.2.2.1 hv.2.2.2.1 J J J J J (nI) (mZ hv.2.2.2.1)
 rw [(dv0 hv.2.2.2.1).1,ah5,ah5,aal,aal] at h
 exact h
theorem aJC {u v:Sp} (hu:eY 3 u) (hv:eY 3 v):ax ak 122 [.agg [ae 1,ae 1,.list 3 ((aA 1 u.1 u.2).map aa),.list 3 ((aA 1 v.1 v.2).map aa),.list 1 ((eJ u v).map a5)],aa v.2] (.a9 [.agg [ae 1,.list 3 ((aA 1 u.1 u.2).map aa),.list 12 ((rwD u v).map bm)],iL 0]):=by
 have ru:=hu.rl ai
 have rv:=hv.rl ai
 have h:=arF 1 u.1 u.2 v.1 v.2 v.2 ⟨⟨u.1,v.1,0⟩,1⟩ ⟨⟨u.1,v.2,0⟩,1⟩ ⟨⟨u.2,v.1,0⟩,1⟩ ⟨⟨u.2,v.2,0⟩,1⟩ (acp hu hv) ai hu.2.2.2.1 hv.2.2.2.1 J J J J J (mZ hv.2.2.2.1) (nI)
 rw [(dv0 hv.2.2.2.1).2,ajw,ajw,aal,aal] at h
 exact h
theorem aJb {x y:Rat} (hx:ik 840 16800 x) (hy:ik 840 16800 y) {s u v:Sp} (hs:eY 3 s) (hu:eY 3 u) (hv:eY 3 v) :
  ax ak 53 ([.list 6 ([s].map aD),.list 6 ([u,v].map aD)]++[.ba (.agg [ae 1,.list 3 ((aA 1 0 1).map aa),.list 12 ((uP x y (0,1)).map bm)]),.ba (.agg [ae 1,ae 1,.list 3 ((aA 1 0 1).map aa),.list 3 ((aA 1 0 1).map aa),.list 1 ((eJ (0,1) (0,1)).map a5)])]) (vdL (lP x y [s] [u,v])):=by
 have ls:=hs.2.2.2.1
 have lu:=hu.2.2.2.1
 have lv:=hv.2.2.2.1
 have ru:=hu.rl ai
 have rv:=hv.rl ai
 have rs:=hs.rl ai
 have hk:=aDt (avq hx hy) ai hs
 rw [show jR (PcT.a ⟨1,0,1,uP x y (0,1)⟩) (PcT.b ⟨1,0,1,uP x y (0,1)⟩) s=s from aAQ s] at hk
 have eC:=aHq x y (show s.1<1 by have:=hs.2.2.2.2;grind)
 have afK:=hk.cut
 have yh:=hk.bx
 have jg:=hk.sp
 have xg:=hk.dom
 have aJh:=hk.mid
 have htg:=hk.tg
 have hen:=hk.ends
 have hbb:=hk.box
 have kp:=hk.pos
 rw [eC] at afK yh jg xg htg hen hbb kp
 rw [aC9 x y ls] at jg
 rw [show lkU ⟨1,0,1,uP x y (0,1)⟩ s=uD from by unfold lkU;rw [eC];exact aG4 x y _ ls] at htg
 rw [show ((uP x y s).getD 0 default).p=⟨x,y,2*s.1-1⟩ from zZ x y s.1,show ((uP x y s).getD ((uP x y s).length-1) default).p=⟨x,y,2*s.2-1⟩ from zZ x y s.2] at hen
 have hpf:=acp hu hv
 have aHn:=avA hu hv
 have atK:=aJA 1 1 1 (aA 1 u.1 u.2) (aA 1 v.1 v.2) (eJ u v) hpf ai
 rw [aH4 (mZ lu) (mZ lv)] at atK
 have ao5:=aId 1 1 1 u.1 u.2 v.1 v.2 (eJ u v) hpf J J J J lu lv ai
 rw [(awh hu hv).1,(awh hu hv).2] at ao5
 have hmu:=aiP lu
 have hmv:=aiP lv
 have rmu:rl (gq u)<=1:=by
  have:=(hu.half.1).rl ai
  exact this.2
 have rmv:rl (gq v)<=1:=by
  have:=(hv.half.1).rl ai
  exact this.2
 have uo:∀ {q:Sp},q.1<q.2->jr (q.1,q.2) (gq q)=true:=fun {q} h=>by
  have:=aiP h
  unfold jr
  rw [decide_eq_true (show q.1<=gq q from this.1),decide_eq_true (show gq q<=q.2 from this.2)];rfl
 have xb:=aBS 1 1 1 u.1 u.2 v.1 v.2 (eJ u v) hpf J J J J lu lv (gq u) (gq v) (1/2) (1/2) J J (auj al) (auj al) (ajY lu) (ajY lv) ai (uo lu) (uo lv)
 rw [(aqy hu hv).1,(aqy hu hv).2] at xb
 have apT:=aet 1 1 u.1 u.2 v.1 v.2 (eJ u v) J J J J lu lv ai ai
 have hC0:oc (.agg [ae 1,.list 3 ((aA 1 0 1).map aa),.list 12 ((uP x y (0,1)).map bm)]) 3:=⟨rfl,rfl,by simp [LV.pure,aK,aP an,aP bz]⟩
 have hS0:oc (.agg [ae 1,ae 1,.list 3 ((aA 1 0 1).map aa),.list 3 ((aA 1 0 1).map aa),.list 1 ((eJ (0,1) (0,1)).map a5)]) 5:=⟨rfl,rfl,by simp [LV.pure,aK,aP an,aP cN]⟩
 have hC1:oc (.agg [ae 1,.list 3 ((aA 1 s.1 s.2).map aa),.list 12 ((uP x y s).map bm)]) 3:=⟨rfl,rfl,by simp [LV.pure,aK,aP an,aP bz]⟩
 have pg:oc (.agg [ae 1,ae 1,.list 3 ((aA 1 u.1 u.2).map aa),.list 3 ((aA 1 v.1 v.2).map aa),.list 1 ((eJ u v).map a5)]) 5:=⟨rfl,rfl,by simp [LV.pure,aK,aP an,aP cN]⟩
 have hM:=aE1 _ _ hC1 pg s u v (gq s) (gq u) (gq v) uD ⟨1,0,0⟩ ⟨0,1,0⟩ 1 ai ⟨by decide +kernel,by decide +kernel,by decide +kernel⟩ ⟨by decide +kernel,by decide +kernel,by decide +kernel⟩ apT xg aJh (ajz u J) (ajz v J) htg xb
 have hb:∀ l:List V3,(∀ q∈l,cP 100 q)->∀ q∈l,cP 90000000 q:=fun l h q hq=>(h q hq).le ai
 have h3:∀ a∈[u.1,u.2],∀ b∈[v.1,v.2],cP 90000000 ⟨a,b,0⟩:=fun a ha b hb=>by
  simp only [ff,iq,or_false] at ha hb
  have r0:rl 0=1:=rfl
  have ka:rl a<=90000000:=by rcases ha with rfl | rfl<;>omega
  have kb:rl b<=90000000:=by rcases hb with rfl | rfl<;>omega
  exact⟨ka,kb,by show rl 0<=_;omega⟩
 have hq4:∀ q∈[(⟨u.1,v.1,0⟩:V3),⟨u.1,v.2,0⟩,⟨u.2,v.1,0⟩,⟨u.2,v.2,0⟩],cP 90000000 q:=fun q hq=>by
  simp only [ff,iq,or_false] at hq
  rcases hq with rfl | rfl | rfl | rfl<;>exact h3 _ aW _ aW
 have ajG:∀ l:List V3,(∀ q∈l,q∈[(⟨u.1,v.1,0⟩:V3),⟨u.1,v.2,0⟩,⟨u.2,v.1,0⟩,⟨u.2,v.2,0⟩])->∀ q∈l,cP 90000000 q:=fun l h q hq=>hq4 q (h q hq)
 have hK:=aGq 1 1 1 (aA 1 s.1 s.2) (aA 1 u.1 u.2) (aA 1 v.1 v.2) (uP x y s) (yn u v) (xI u v) _ _ _ 10 ai (⟨⟨by decide +kernel,by decide +kernel⟩,⟨by decide +kernel,by decide +kernel⟩,⟨by decide +kernel,by decide +kernel⟩⟩:gI 10 ⟨(0,0),(0,0),(2,2)⟩) (⟨⟨by decide +kernel,by decide +kernel⟩,⟨by decide +kernel,by decide +kernel⟩,⟨by decide +kernel,by decide +kernel⟩⟩:gI 10 ⟨(1,1),(0,0),(0,0)⟩) (⟨⟨by decide +kernel,by decide +kernel⟩,⟨by decide +kernel,by decide +kernel⟩,⟨by decide +kernel,by decide +kernel⟩⟩:gI 10 ⟨(0,0),(1,1),(0,0)⟩) uM (⟨⟨by decide +kernel,by decide +kernel,by decide +kernel⟩,⟨by decide +kernel,by decide +kernel,by decide +kernel⟩,⟨by decide +kernel,by decide +kernel,by decide +kernel⟩,⟨by decide +kernel,by decide +kernel,by decide +kernel⟩⟩:xi 10 uM) ⟨x,y,2*s.1-1⟩ ⟨x,y,2*s.2-1⟩ u v (by decide:0<2) (by decide:2<=1000) (by decide:0<2) (by decide:2<=100) (by decide:0<2) (by decide:2<=100)
  (hb _ kp) hq4 (hb _ fun q hq=>by
   rw [fP.1 hq,<-zZ];exact kp _ (ga.2 ⟨⟨vR (uA x y) uD s.1,1⟩,apw ..,rfl⟩)) (hb _ fun q hq=>by
   rw [fP.1 hq,<-zZ];exact kp _ (ga.2 ⟨⟨vR (uA x y) uD s.2,1⟩,List.mem_cons_of_mem _ (apw ..),rfl⟩))
  1 (aA 1 v.1 v.2) (yn u v) (by decide:0<2/\2<=1000) (ajG [_,_] aW) 1 (aA 1 v.1 v.2) (xI u v) (by decide:0<2/\2<=1000) (ajG [_,_] aW) 1 (aA 1 u.1 u.2) (rwC u v) (by decide:0<2/\2<=1000) (ajG [_,_] aW) 1 (aA 1 u.1 u.2) (rwD u v) (by decide:0<2/\2<=1000) (ajG [_,_] aW)
  ao5 jg hM hen apT (ays hu hv) (aEq hu hv) (azT hu hv) (aJC hu hv)
 rw [ayL x y ls lu lv] at hK
 have hL:=aAd s u v _ _ _ _ hC0 hC1 hS0 pg _ ⟨u,v,(0,0)⟩ 100 ai hbb ⟨⟨(by omega:rl u.1<=100),(by omega:rl u.2<=100)⟩,⟨(by omega:rl v.1<=100),(by omega:rl v.2<=100)⟩,⟨(by decide +kernel:rl 0<=100),(by decide +kernel:rl 0<=100)⟩⟩ (kdU x y s u v) afK aHn yh atK (fun _=>hK)
 rw [aHu x y ls lu lv] at hL
 exact hL
theorem aDZ (p q:Q4):et 1 0 1 [p,q] 0 1=[p,q]:=by
 have e:∀ j k,j<=1->qc ((et 1 0 1 [p,q] 0 1).getD j default) k=qc ([p,q].getD j default) k:=fun j k hj=>by
  rw [au1 (d:=1) rfl hj k,aaY,aaY,aiL _ _ _ _ hj]
  have h:j=0\/j=1:=by omega
  rcases h with rfl | rfl
  ·show qc p k+0*(qc q k-qc p k)=qc p k;grind
  ·show qc p k+1*(qc q k-qc p k)=qc q k;grind
 have q4:∀ a b:Q4,(∀ k,qc a k=qc b k)->a=b:=fun⟨a,b,c,d⟩ ⟨a',b',c',d'⟩ h=>by
  have h0:a=a':=h 0
  have h1:b=b':=h 1
  have h2:c=c':=h 2
  have h3:d=d':=h 3
  rw [h0,h1,h2,h3]
 have e0:=q4 _ _ fun k=>e 0 k ai
 have e1:=q4 _ _ fun k=>e 1 k ai
 show [(et 1 0 1 [p,q] 0 1).getD 0 default,(et 1 0 1 [p,q] 0 1).getD 1 default]=[p,q]
 rw [e0,e1];rfl
theorem ald {x y:Rat} (hx:ik 840 16800 x) (hy:ik 840 16800 y) (d w:Nat) (hd:d<=3) (hw:w<=4096):ax ak 18 [.agg [ae 1,.list 3 ((aA 1 0 1).map aa),.list 12 ((uP x y (0,1)).map bm)],.agg [ae 1,ae 1,.list 3 ((aA 1 0 1).map aa),.list 3 ((aA 1 0 1).map aa),.list 1 ((eJ (0,1) (0,1)).map a5)],ajN d w] (.a9 [.list 4 ((tH d w 1 0 (lP x y) ([tr],0,[])).2.2.map iW),iL 0]):=by
 have hC0:oc (.agg [ae 1,.list 3 ((aA 1 0 1).map aa),.list 12 ((uP x y (0,1)).map bm)]) 3:=⟨rfl,rfl,by simp [LV.pure,aK,aP an,aP bz]⟩
 have hS0:oc (.agg [ae 1,ae 1,.list 3 ((aA 1 0 1).map aa),.list 3 ((aA 1 0 1).map aa),.list 1 ((eJ (0,1) (0,1)).map a5)]) 5:=⟨rfl,rfl,by simp [LV.pure,aK,aP an,aP cN]⟩
 have r0:rl 0=1:=rfl
 have r1:rl 1=1:=rfl
 have h1:=(avq hx hy).c
 have h01:eY 3 ((0,1):Sp):=⟨adt.1.le ai,adt.2.1.le ai,adt.2.2⟩
 have hpf:=acp h01 h01
 have lt:(0:Rat)<1:=by decide +kernel
 have hle:∀ {s:Sp},eY d s->eY 3 s:=fun h=>⟨h.1.le hd,h.2.1.le hd,h.2.2⟩
 have hCu:=an3 1 0 1 0 1 ((uP x y (0,1)).map bW) (2*1000) ai ai nI lt nI J J J J rfl ai ai (fun q hq=>by
  obtain⟨z,hz,rfl⟩:=ga.1 hq
  exact ajd (h1.ok z hz))
 rw [show et 1 0 1 ((uP x y (0,1)).map bW) 0 1=(uP x y (0,1)).map bW from aDZ _ _] at hCu
 exact aA5 _ _ hC0 hS0 (0,1) (0,1) (0,1) d w 0 J hw J (lP x y) (cqI d) (aAN d w J hw) (aD1 1 0 1 (uP x y (0,1)) 1000 h1 ai ai lt J J hCu)
  (aGV 1 1 1 0 1 0 1 (eJ (0,1) (0,1)) hpf ai lt lt J J J J (avA h01 h01)) (ahg 1 0 1 (uP x y (0,1)) J J lt ai) (aet 1 1 0 1 0 1 (eJ (0,1) (0,1)) J J J J lt lt ai ai)
  (aHv J (lP x y) (fun s u v h1 h2 h3=>aJb hx hy (hle h1) (hle h2) (hle h3)) fun s u v _ _ _=>aIz x y _ _) (aFM d)
namespace aoO
theorem aw {p q:Prop} (k:q) (e:p=q:=by simp only [e1,e2,e3,e4,p1,p2,p3,q1,q2,q3,l1,t0,t1,r1,r2,r3,r4,Nat.zero_add,Nat.reduceMul,Nat.reduceAdd,b1,b2,b3,b4,b5,b6,i1,i2,i3,i4,i5,i6,Nat.reduceBEq,eW,iH,List.length_map,fo,eO,dW,List.length_cons,List.length_nil,List.nil_append,List.map_nil,List.take_nil,List.append_nil,aG an,List.set_cons_zero,List.set_cons_succ,Nat.reduceEqDiff,reduceIte,if_true,if_false,cB,dB,aG aX,aG bz,aG an,cA,cC,LV.kill,bH];exact rfl):p:=e.mpr k
end aoO
open aoO in
theorem au7 (l:List Int) (hl:l.length<=1000) (hb:∀ x∈l,-1000<=x/\x<=1000):ax ak 62 [.list 1 (l.map eP)] (.list 3 ((l.map fun x:Int=>(x:Rat)).map aa)):=by
 refine aR Tryz.func62 ?_
 have eW:True:=trivial
 have iH:True:=trivial
 refine iY ?_
 refine jm (az.own (t:=3) 18 3 rfl rfl) ?_
 refine dI (fun(k:Nat) L=>((((St.mk L.slot (hp [(18,⟨3,((l.map fun x:Int=>(x:Rat)).take k).map aa,true⟩)])).put (some 0) (.list 1 (l.map eP))).put (some 3) (.ref 18 3 0 k)).put (some 4) (ae k))) (fun k=>k<=l.length) (fun k=>l.length-k) 0 (bS _) ?_
 rintro k L1 hk
 refine bB ?_
 refine aL rfl ?_ ?_<;>intro re h8
 ·have lS:k<l.length:=by omega
  have lY:=hb (l.getD k 0) (by rw [bE,bY lS];exact qx lS)
  have iH:=acA (fun x:Int=>(x:Rat)) l 0 lS
  have eW:(((l.map fun x:Int=>(x:Rat)).take k).map aa).take k=((l.map fun x:Int=>(x:Rat)).take k).map aa:=cE aai
  have hlr:(l.map fun x:Int=>(x:Rat)).length=l.length:=eD ..
  refine bh ?_
  refine cp aO (aaX (l.getD k 0) J J) ?_
  refine ao ?_
  refine bO rfl (.fV (d:=18) (news:=[aa ((l.getD k 0):Rat)]) rfl rfl rfl rfl bq (.inl rfl) ai dY dY kT dC rfl kX (.inl ⟨17,0,_,rfl,by decide,rfl,rfl,by simp,rfl,by simp [aK,an.pure]⟩) bq bq ai) ?_
  refine aB ?_
  refine bR (az.kill _ 17) ?_
  refine ao ?_
  refine ah rfl cu ?_
  refine aQ ?_
  exact yb
 ·obtain rfl:k=l.length:=by omega
  have hE:(l.map fun x:Int=>(x:Rat)).take l.length=(l.map fun x:Int=>(x:Rat)):=cE (by rw [eD];exact bF _)
  simp only [hE]
  refine bw ?_
  exact lW [18] rfl rfl (dH (l:=(l.map fun x:Int=>(x:Rat))) an rfl rfl (by rw [eD]))
open ig in
theorem zq (p:V3):ax ak 63 [aE p,iL 1] (bm ⟨p,1⟩):=by
 have w6:ax ak 17 [iL 1] (aa 1):=aaX 1 ai ai
 refine aR Tryz.func63 (ht:=(fun g=>LV.cQ g _ (bz.pure _))) ?_
 refine bf ?_
 refine aY 4 al ?_
 refine aH ?_
 refine cp aO (w6) ?_
 refine aag (alU (p:=p) (r:=1) rfl rfl) ?_
 refine aB ?_
 exact fi [] rfl rfl rfl cs (cr cs rfl) mO (.pure pu)
def lnR (a b:V3):List ar:=[⟨a,1⟩,⟨b,1⟩]
def aGk (a b c d:V3):List (List ar):=[[⟨a,1⟩,⟨c,1⟩],[⟨b,1⟩,⟨d,1⟩]]
namespace apS
theorem aw {p q:Prop} (k:q) (e:p=q:=by simp only [e1,e2,e3,e4,p1,p2,p3,q1,q2,q3,l1,t0,t1,r1,r2,r3,r4,Nat.zero_add,Nat.reduceMul,Nat.reduceAdd,b1,b2,b3,b4,b5,b6,i1,i2,i3,i4,i5,i6,Nat.reduceBEq,cB,p9,zh,List.getD_cons_zero,List.getD_cons_succ,List.set_cons_zero,List.set_cons_succ,Nat.reduceEqDiff,reduceIte,if_true,if_false,cB,dB,aG aX,aG bz,aG an,cA,cC,LV.kill,bH];exact rfl):p:=e.mpr k
end apS
open apS in
theorem aAs (a b:V3):ax ak 57 [aE a,aE b] (.agg [ae 1,.list 3 ((aA 1 0 1).map aa),.list 12 ((lnR a b).map bm)]):=by
 have nH:=cd an 3 (aA 1 0 1)
 have hI4:ax ak 62 [.list 1 (([0,0,1,1]:List Int).map eP)] (.list 3 ((aA 1 0 1).map aa)):=by
  have:=au7 [0,0,1,1] ai ai
  rwa [show (([0,0,1,1]:List Int).map fun x:Int=>(x:Rat))=aA 1 0 1 from by decide +kernel] at this
 refine aR Tryz.func57 (ht:=(fun g=>LV.cQ g _ agb)) ?_
 refine bg ?_
 refine aY 8 al ?_
 refine dF rfl rfl (.alP (a:=0) (b:=0) (c:=1) (f:=1) lQ aaI (show cF _ _ (eP 0) from Z2) T2 rfl rfl rfl rfl ai ai) ?_
 refine aw ?_
 refine ac3 [5] rfl rfl (.cons (dH (l:=[0,0,1,1]) lQ rfl rfl rfl) .nil) (hI4) ?_
 refine ao ?_
 refine bM rfl (.cons (.pure (aX.pure a)) (.cons (.pure rfl) .nil)) (zq a) ?_
 refine ao ?_
 refine bM rfl (.cons (.pure (aX.pure b)) (.cons (.pure rfl) .nil)) (zq b) ?_
 refine dF rfl rfl (.wO (a:=⟨a,1⟩) (b:=⟨b,1⟩) (z:=⟨⟨0,0,0⟩,0⟩) bz kj (show cF _ _ (bm ⟨⟨0,0,0⟩,0⟩) from pz) mO rfl rfl ai ai) ?_
 refine a7 ?_
 exact fi [11] rfl rfl rfl cs (cr cs rfl) ob (.agg (.cons (.pure rfl) (.cons (.pure nH) (.cons (dH (l:=lnR a b) bz rfl rfl rfl) .nil))))
namespace at7
theorem aw {p q:Prop} (k:q) (e:p=q:=by simp only [e1,e2,e3,e4,p1,p2,p3,q1,q2,q3,l1,t0,t1,r1,r2,r3,r4,Nat.zero_add,Nat.reduceMul,Nat.reduceAdd,b1,b2,b3,b4,b5,b6,i1,i2,i3,i4,i5,i6,Nat.reduceBEq,cB,p9,zh,nW,aG cN,mN,cn,fo,eO,dW,List.length_cons,List.length_nil,List.nil_append,List.map_nil,List.take_nil,List.append_nil,List.set_cons_zero,List.set_cons_succ,Nat.reduceEqDiff,reduceIte,if_true,if_false,cB,dB,aG aX,aG bz,aG an,cA,cC,LV.kill,bH];exact rfl):p:=e.mpr k
end at7
open at7 in
theorem aCP (a b c d:V3):ax ak 25 [aE a,aE b,aE c,aE d] (.agg [ae 1,ae 1,.list 3 ((aA 1 0 1).map aa),.list 3 ((aA 1 0 1).map aa),.list 1 ((aGk a b c d).map a5)]):=by
 have nH:=cd an 3 (aA 1 0 1)
 have hI4:ax ak 62 [.list 1 (([0,0,1,1]:List Int).map eP)] (.list 3 ((aA 1 0 1).map aa)):=by
  have:=au7 [0,0,1,1] ai ai
  rwa [show (([0,0,1,1]:List Int).map fun x:Int=>(x:Rat))=aA 1 0 1 from by decide +kernel] at this
 refine aR Tryz.func25 (ht:=(fun g=>LV.cQ g _ aaN)) ?_
 refine bC ?_
 refine dF rfl rfl (.alP (a:=0) (b:=0) (c:=1) (f:=1) lQ aaI (show cF _ _ (eP 0) from Z2) T2 rfl rfl rfl rfl ai ai) ?_
 refine ac3 [10] rfl rfl (.cons (dH (l:=[0,0,1,1]) lQ rfl rfl rfl) .nil) (hI4) ?_
 refine aB ?_
 refine alr ((((az.ba (t:=4) (b:=4) rfl rfl (aX.av _) rfl (aX.pure _)).trans (az.ba (t:=5) (b:=5) rfl rfl (by simp only [cB];exact aX.av _) (by simp only [cB];rfl) (by simp only [cB];exact aX.pure _))).trans (az.ba (t:=6) (b:=6) rfl rfl (by simp only [cB];exact aX.av _) (by simp only [cB];rfl) (by simp only [cB];exact aX.pure _))).trans (az.ba (t:=7) (b:=7) rfl rfl (by simp only [cB];exact aX.av _) (by simp only [cB];rfl) (by simp only [cB];exact aX.pure _))) ?_
 refine aw ?_
 refine iT 0 rfl rfl al (.pure (.move _)) (fun b=>LV.nz b _ nH) lb ?_
 refine iT 2 rfl rfl al (.pure (.move _)) (fun b=>LV.nz b _ nH) lb ?_
 refine iT 4 rfl rfl al (.pure (.l9 (c:=aE a) rfl (aX.pure a) (aX.av a) rfl)) (fun b=>cB _ b) lb ?_
 refine iT 6 rfl rfl al (.pure (.l9 (c:=aE c) rfl (aX.pure c) (aX.av c) rfl)) (fun b=>cB _ b) lb ?_
 refine iT 9 rfl rfl al (.pure (.l9 (c:=aE b) rfl (aX.pure b) (aX.av b) rfl)) (fun b=>cB _ b) lb ?_
 refine iT 11 rfl rfl al (.pure (.l9 (c:=aE d) rfl (aX.pure d) (aX.av d) rfl)) (fun b=>cB _ b) lb ?_
 refine aS 1 _ al rfl ?_
 refine ao ?_
 refine aC ?_
 refine aS 3 _ al rfl ?_
 refine bO rfl (.fV (d:=13) (news:=(aA 1 0 1).map aa) rfl rfl rfl rfl aW (.inl rfl) ai dY dY kT dC rfl kX (.inr (.inl rfl)) (by simp [gW]) (by simp [gW]) ai) ?_
 refine aC ?_
 refine aS 5 _ al rfl ?_
 refine aw ?_
 refine bM rfl (.cons (.pure (aX.pure a)) (.cons (.pure rfl) .nil)) (zq a) ?_
 refine aC ?_
 refine aS 7 _ al rfl ?_
 refine bM rfl (.cons (.pure (aX.pure c)) (.cons (.pure rfl) .nil)) (zq c) ?_
 refine aC ?_
 refine eG 8 10 _ _ al rfl rfl ?_ ?_
 ·refine dF rfl rfl (.wO (a:=⟨a,1⟩) (b:=⟨c,1⟩) (z:=⟨⟨0,0,0⟩,0⟩) bz kj (show cF _ _ (bm ⟨⟨0,0,0⟩,0⟩) from pz) mO rfl rfl ai ai) ?_
  refine aC ?_
  refine aS 10 _ al rfl ?_
  refine bM rfl (.cons (.pure (aX.pure b)) (.cons (.pure rfl) .nil)) (zq b) ?_
  refine aC ?_
  refine aS 12 _ al rfl ?_
  refine bM rfl (.cons (.pure (aX.pure d)) (.cons (.pure rfl) .nil)) (zq d) ?_
  refine aC ?_
  refine aS 13 _ al rfl ?_
  refine dF rfl rfl (.wO (a:=⟨b,1⟩) (b:=⟨d,1⟩) (z:=⟨⟨0,0,0⟩,0⟩) bz kj (show cF _ _ (bm ⟨⟨0,0,0⟩,0⟩) from pz) mO rfl rfl ai ai) ?_
  refine aC ?_
  refine aS 14 _ al rfl ?_
  refine dF rfl rfl (.lit (z:=a5 []) (sz:=1) qb prZ uT rfl ai ai ai ai8) ?_
  refine aC ?_
  refine aS 15 _ al rfl ?_
  refine ah rfl agm ?_
  refine aC ?_
  refine aS 16 _ al rfl ?_
  refine ao ?_
  refine aC ?_
  refine dt al ?_
  refine aH ?_
  exact aiX
 ·refine bM rfl (.cons (.pure (aX.pure b)) (.cons (.pure rfl) .nil)) (zq b) ?_
  refine aC ?_
  refine eG 8 12 _ _ al rfl rfl ?_ ?_
  ·refine dF rfl rfl (.wO (a:=⟨a,1⟩) (b:=⟨c,1⟩) (z:=⟨⟨0,0,0⟩,0⟩) bz kj (show cF _ _ (bm ⟨⟨0,0,0⟩,0⟩) from pz) mO rfl rfl ai ai) ?_
   refine aC ?_
   refine aS 12 _ al rfl ?_
   refine bM rfl (.cons (.pure (aX.pure d)) (.cons (.pure rfl) .nil)) (zq d) ?_
   refine aC ?_
   refine aS 13 _ al rfl ?_
   refine dF rfl rfl (.wO (a:=⟨b,1⟩) (b:=⟨d,1⟩) (z:=⟨⟨0,0,0⟩,0⟩) bz kj (show cF _ _ (bm ⟨⟨0,0,0⟩,0⟩) from pz) mO rfl rfl ai ai) ?_
   refine aC ?_
   refine aS 14 _ al rfl ?_
   refine dF rfl rfl (.lit (z:=a5 []) (sz:=1) qb prZ uT rfl ai ai ai ai8) ?_
   refine aC ?_
   refine aS 15 _ al rfl ?_
   refine ah rfl agm ?_
   refine aC ?_
   refine aS 16 _ al rfl ?_
   refine ao ?_
   refine aC ?_
   refine dt al ?_
   refine aH ?_
   exact aiX
  ·refine bM rfl (.cons (.pure (aX.pure d)) (.cons (.pure rfl) .nil)) (zq d) ?_
   refine aC ?_
   refine eG 8 13 _ _ al rfl rfl ?_ ?_
   ·refine dF rfl rfl (.wO (a:=⟨a,1⟩) (b:=⟨c,1⟩) (z:=⟨⟨0,0,0⟩,0⟩) bz kj (show cF _ _ (bm ⟨⟨0,0,0⟩,0⟩) from pz) mO rfl rfl ai ai) ?_
    refine aC ?_
    refine aS 13 _ al rfl ?_
    refine dF rfl rfl (.wO (a:=⟨b,1⟩) (b:=⟨d,1⟩) (z:=⟨⟨0,0,0⟩,0⟩) bz kj (show cF _ _ (bm ⟨⟨0,0,0⟩,0⟩) from pz) mO rfl rfl ai ai) ?_
    refine aC ?_
    refine aS 14 _ al rfl ?_
    refine dF rfl rfl (.lit (z:=a5 []) (sz:=1) qb prZ uT rfl ai ai ai ai8) ?_
    refine aC ?_
    refine aS 15 _ al rfl ?_
    refine ah rfl agm ?_
    refine aC ?_
    refine aS 16 _ al rfl ?_
    refine ao ?_
    refine aC ?_
    refine dt al ?_
    refine aH ?_
    exact aiX
   ·refine dF rfl rfl (.wO (a:=⟨b,1⟩) (b:=⟨d,1⟩) (z:=⟨⟨0,0,0⟩,0⟩) bz kj (show cF _ _ (bm ⟨⟨0,0,0⟩,0⟩) from pz) mO rfl rfl ai ai) ?_
    refine aC ?_
    refine aS 8 _ al rfl ?_
    refine dF rfl rfl (.wO (a:=⟨a,1⟩) (b:=⟨c,1⟩) (z:=⟨⟨0,0,0⟩,0⟩) bz kj (show cF _ _ (bm ⟨⟨0,0,0⟩,0⟩) from pz) mO rfl rfl ai ai) ?_
    refine aC ?_
    refine aS 14 _ al rfl ?_
    refine dF rfl rfl (.lit (z:=a5 []) (sz:=1) qb prZ uT rfl ai ai ai ai8) ?_
    refine aC ?_
    refine aS 15 _ al rfl ?_
    refine ah rfl agm ?_
    refine aC ?_
    refine aS 16 _ al rfl ?_
    refine ao ?_
    refine aC ?_
    refine dt al ?_
    refine aH ?_
    exact aiX
theorem auf (a b:Int):ik 840 16800 (rtV a b):=by
 have h1:=adB a (show (41:Int)≠0 by decide)
 have h2:=adf a (show (0:Int)<41 by decide)
 have h3:=adB b (show (8:Int)≠0 by decide)
 have h4:=adf b (show (0:Int)<8 by decide)
 unfold rtV
 generalize a % 41=n at h1 h2
 generalize b % 8=d at h3 h4
 have hd:d=0\/d=1\/d=2\/d=3\/d=4\/d=5\/d=6\/d=7:=by omega
 have key:∀ (q e:Int),q*e=840->0<e->ik 840 16800 (((n-20:Int):Rat)/((e:Int):Rat)):=fun q e he hp=>by
  have l6:(0:Rat)<(e:Rat):=Rat.intCast_pos.2 hp
  have hm:((n-20:Int):Rat)/(e:Rat)*(e:Rat)=((n-20:Int):Rat):=lD dz
  have h8:(((840:Nat):Int):Rat)=(q:Rat)*(e:Rat):=by rw [<-abx,he];rfl
  refine⟨(n-20)*q,?_,?_⟩
  ·rw [h8,zD (q:Rat),<-ady,hm,<-abx]
  ·have hq:0<q:=by
    refine Int.not_le.1 fun h=>?_
    have:=Int.mul_le_mul_of_nonneg_right h (aqI hp)
    omega
   have hq2:q<=840:=by
    have:=Int.mul_le_mul_of_nonneg_left (show 1<=e by omega) (aqI hq)
    omega
   have hb:(n-20).natAbs<=20:=by omega
   have hqa:q.natAbs<=840:=by omega
   rw [Int.natAbs_mul]
   exact bb (Nat.mul_le_mul hb hqa) ai
 rcases hd with rfl | rfl | rfl | rfl | rfl | rfl | rfl | rfl
 ·exact key 840 1 ai ai
 ·exact key 420 2 ai ai
 ·exact key 280 3 ai ai
 ·exact key 210 4 ai ai
 ·exact key 168 5 ai ai
 ·exact key 140 6 ai ai
 ·exact key 120 7 ai ai
 ·exact key 105 8 ai ai
theorem aiw {x:Rat}:0<di x↔0<x:=by
 unfold di
 by_cases h:x=0
 ·rw [if_pos h];constructor
  ·intro h;omega
  ·intro g;rw [h] at g;exact absurd g al
 ·rw [if_neg h]
  by_cases g:x<0
  ·rw [if_pos g];constructor
   ·intro h;omega
   ·intro h;grind
  ·rw [if_neg g];constructor
   ·intro _;grind
   ·intro _;decide
theorem ai9 {x:Rat}:di x<0↔x<0:=by
 unfold di
 by_cases h:x=0
 ·rw [if_pos h];constructor
  ·intro h;omega
  ·intro g;rw [h] at g;exact absurd g al
 ·rw [if_neg h]
  by_cases g:x<0
  ·rw [if_pos g];constructor
   ·intro _;exact g
   ·intro _;decide
  ·rw [if_neg g];constructor
   ·intro h;omega
   ·intro h;exact absurd h g
open aas in
theorem alx (x y:Rat):ax ak 19 [aa x,aa y] (.agg [ae 1,.list 3 ((aA 1 0 1).map aa),.list 12 ((uP x y (0,1)).map bm)]):=by
 have w6:ax ak 17 [iL 1] (aa 1):=aaX 1 ai ai
 have hIm:ax ak 17 [iL (-1)] (aa (-1)):=by
  have:=aaX (-1) ai ai
  rwa [show (((-1:Int)):Rat)=-1 from by decide +kernel] at this
 have jg:LV.pure (.agg [ae 1,.list 3 ((aA 1 0 1).map aa),.list 12 ((uP x y (0,1)).map bm)])=true:=by simp [LV.pure,aK,aP an,aP bz]
 have hLn:ax ak 57 [aE ⟨x,y,-1⟩,aE ⟨x,y,1⟩] (.agg [ae 1,.list 3 ((aA 1 0 1).map aa),.list 12 ((uP x y (0,1)).map bm)]):=by
  rw [auH];exact aAs ⟨x,y,-1⟩ ⟨x,y,1⟩
 refine aR Tryz.func19 (ht:=(fun g=>LV.cQ g _ agb)) ?_
 refine bg ?_
 refine aY 9 al ?_
 refine aH ?_
 refine cp aO (hIm) ?_
 refine aQ ?_
 refine cp aO (w6) ?_
 refine ao ?_
 refine cp au (hLn) ?_
 refine aB ?_
 exact fi [] rfl rfl rfl cs (cr cs rfl) ob (.pure jg)
open aas in
theorem an8 :ax ak 20 [] (.agg [ae 1,ae 1,.list 3 ((aA 1 0 1).map aa),.list 3 ((aA 1 0 1).map aa),.list 1 ((eJ (0,1) (0,1)).map a5)]):=by
 have jg:LV.pure (.agg [ae 1,ae 1,.list 3 ((aA 1 0 1).map aa),.list 3 ((aA 1 0 1).map aa),.list 1 ((eJ (0,1) (0,1)).map a5)])=true:=by simp [LV.pure,aK,aP an,aP cN]
 have hA3:ax ak 58 [aE (⟨1,0,0⟩:V3),aE (⟨0,1,0⟩:V3)] (aE (⟨1,1,0⟩:V3)):=by
  have:=aGS (⟨1,0,0⟩:V3) (⟨0,1,0⟩:V3) 10 ai ⟨by decide +kernel,by decide +kernel,by decide +kernel⟩ ⟨by decide +kernel,by decide +kernel,by decide +kernel⟩
  rwa [show ym (⟨1,0,0⟩:V3) (⟨0,1,0⟩:V3)=(⟨1,1,0⟩:V3) from by unfold ym;simp;try decide +kernel] at this
 have hBi:ax ak 25 [aE ⟨0,0,0⟩,aE ⟨1,0,0⟩,aE ⟨0,1,0⟩,aE ⟨1,1,0⟩] (.agg [ae 1,ae 1,.list 3 ((aA 1 0 1).map aa),.list 3 ((aA 1 0 1).map aa),.list 1 ((eJ (0,1) (0,1)).map a5)]):=aCP ⟨0,0,0⟩ ⟨1,0,0⟩ ⟨0,1,0⟩ ⟨1,1,0⟩
 refine aR Tryz.func20 (ht:=(fun g=>LV.cQ g _ aaN)) ?_
 refine bf ?_
 refine cp aO (aAn) ?_
 refine cp aO (azv) ?_
 refine bf ?_
 refine aY 7 al ?_
 refine aag (akO) ?_
 refine aB ?_
 refine cp au (hA3) ?_
 refine cp am4 (hBi) ?_
 refine aB ?_
 exact fi [] rfl rfl rfl cs (cr cs rfl) nd (.pure jg)
namespace asw
theorem aw {p q:Prop} (k:q) (e:p=q:=by simp only [e1,e2,e3,e4,p1,p2,p3,q1,q2,q3,l1,t0,t1,r1,r2,r3,r4,Nat.zero_add,Nat.reduceMul,Nat.reduceAdd,b1,b2,b3,b4,b5,b6,i1,i2,i3,i4,i5,i6,Nat.reduceBEq,List.getD_cons_zero,nW,aG cN,mN,cn,fo,eO,dW,List.length_cons,List.length_nil,List.nil_append,List.map_nil,List.take_nil,List.append_nil,List.set_cons_zero,List.set_cons_succ,Nat.reduceEqDiff,reduceIte,if_true,if_false,cB,dB,aG aX,aG bz,aG an,cA,cC,LV.kill,bH];exact rfl):p:=e.mpr k
end asw
open asw in
theorem akQ :ax ak 23 [] (bL true):=by
 have lj:LV.pure (.agg [ae 1,ae 1,.list 3 ((aA 1 0 1).map aa),.list 3 ((aA 1 0 1).map aa),.list 1 ((eJ (0,1) (0,1)).map a5)])=true:=by simp [LV.pure,aK,aP an,aP cN]
 have tA:LV.pure (.agg [ae 1,.list 3 ((aA 1 0 1).map aa),.list 12 ((uP (1/3) (1/3) (0,1)).map bm)])=true:=by simp [LV.pure,aK,aP an,aP bz]
 have x9:LV.pure (.agg [ae 1,.list 3 ((aA 1 0 1).map aa),.list 12 ((uP 2 (1/3) (0,1)).map bm)])=true:=by simp [LV.pure,aK,aP an,aP bz]
 have hFr:ax ak 24 [iL 1,iL 3] (aa (1/3)):=awq 1 3 ai ai ai ai ai
 have hI2:ax ak 17 [iL 2] (aa 2):=aaX 2 ai ai
 have agT:LV.pure (.agg [iL 0,iL 9,aa 0])=true:=by simp [LV.pure,aK,an.pure]
 have k3:ik 840 16800 (1/3):=⟨280,by decide +kernel,by decide⟩
 have k2:ik 840 16800 2:=⟨1680,by decide +kernel,by decide⟩
 have hM1:ax ak 18 [.agg [ae 1,.list 3 ((aA 1 0 1).map aa),.list 12 ((uP (1/3) (1/3) (0,1)).map bm)],.agg [ae 1,ae 1,.list 3 ((aA 1 0 1).map aa),.list 3 ((aA 1 0 1).map aa),.list 1 ((eJ (0,1) (0,1)).map a5)],.agg [iL 0,iL 9,aa 0]] (.a9 [.list 4 ([(([cS],[cS,cS],3,0):jc)].map iW),iL 0]):=by
  have:=ald k3 k3 0 9 ai ai
  rw [aqg (by decide +kernel:(0:Rat)<1/3/\(1/3:Rat)<1/\(0:Rat)<1/3/\(1/3:Rat)<1) 0 9 ai] at this
  exact this
 have hM2:ax ak 18 [.agg [ae 1,.list 3 ((aA 1 0 1).map aa),.list 12 ((uP 2 (1/3) (0,1)).map bm)],.agg [ae 1,ae 1,.list 3 ((aA 1 0 1).map aa),.list 3 ((aA 1 0 1).map aa),.list 1 ((eJ (0,1) (0,1)).map a5)],.agg [iL 0,iL 9,aa 0]] (.a9 [.list 4 [],iL 0]):=by
  have:=ald k2 k3 0 9 ai ai
  rw [auR (.inr (.inl al)) 0 9 ai] at this
  exact this
 refine aR Tryz.func23 ?_
 refine bf ?_
 refine cp au (hFr) ?_
 refine bg ?_
 refine cp au (alx (1/3) (1/3)) ?_
 refine cp am0 (an8) ?_
 refine ah rfl (show aN _ _ _ _ (.agg [iL 0,iL 9,aa 0]) from .build (zs:=[.v (.int .i64 0),.v (.int .i64 0),aa 0]) (by simpa [lay,LV.av,cL,ad0,an.av,an.isAgg] using aiW) Z41 (by simp only [agU];exact⟨⟨_,rfl,rfl,jH⟩,fun _ h=>by cases h⟩)) ?_
 try refine aw ?_
 refine bM rfl (.cons (.pure tA) (.cons (.pure lj) (.cons (.pure agT) .nil))) (hM1) ?_
 refine bg ?_
 refine aY 11 al ?_
 refine cp aO (hI2) ?_
 refine ao ?_
 refine cp au (alx 2 (1/3)) ?_
 refine cp am0 (an8) ?_
 refine ah rfl (show aN _ _ _ _ (.agg [iL 0,iL 9,aa 0]) from .build (zs:=[.v (.int .i64 0),.v (.int .i64 0),aa 0]) (by simpa [lay,LV.av,cL,ad0,an.av,an.isAgg] using aiW) Z41 (by simp only [agU];exact⟨⟨_,rfl,rfl,jH⟩,fun _ h=>by cases h⟩)) ?_
 try refine aw ?_
 refine bM rfl (.cons (.pure x9) (.cons (.pure lj) (.cons (.pure agT) .nil))) (hM2) ?_
 refine bw ?_
 refine ah (aM (v:=true) rfl rfl ((rfl)) rfl) (.move _) ?_
 refine ah (aM (v:=true) rfl rfl ((rfl)) rfl) pM ?_
 refine ah (aM (v:=true) rfl rfl ((rfl)) rfl) (.bin rfl rfl rfl) ?_
 refine ah rfl (.gU rfl ((rfl))) ?_
 refine ao ?_
 refine ah (aM (v:=true) rfl rfl ((rfl)) rfl) (.move _) ?_
 refine ah (aM (v:=true) rfl rfl ((rfl)) rfl) (.gD (n:=0) (r:=(.agg [.list 6 (([cS]:List Sp).map aD),.list 6 (([cS,cS]:List Sp).map aD),ae 3,ae 0])) rfl oA pR rfl ai rfl rfl) ?_
 refine ah (aM (v:=true) rfl rfl ((rfl)) rfl) gr ?_
 refine ah (aM (v:=true) rfl rfl ((rfl)) rfl) dE ?_
 refine ah (aM (v:=true) rfl rfl ((rfl)) rfl) (.bin rfl rfl rfl) ?_
 refine ah rfl (.gU rfl ((rfl))) ?_
 refine ao ?_
 refine ah (aM (v:=true) rfl rfl ((rfl)) rfl) (.move _) ?_
 refine ah (aM (v:=true) rfl rfl ((rfl)) rfl) (.bin rfl rfl rfl) ?_
 refine ah rfl (.gU rfl ((rfl))) ?_
 refine ao ?_
 refine ah (aM (v:=true) rfl rfl ((rfl)) rfl) (.move _) ?_
 refine ah (aM (v:=true) rfl rfl ((rfl)) rfl) pM ?_
 refine ah (aM (v:=true) rfl rfl ((rfl)) rfl) (.bin rfl rfl rfl) ?_
 refine ah rfl (.gU rfl ((rfl))) ?_
 refine aB ?_
 exact jL
theorem aDe {D W na:Nat} {wd:Rat} {lk:pq} (C:Nat) {s:RunT} (h:s.2.2.length+gV D s.1<=C):(tH D W na wd lk s).2.2.length<=C:=by
 have:=(akG (D:=D) (W:=W) (na:=na) (wd:=wd) (lk:=lk) (fun s=>s.2.2.length+gV D s.1<=C) (fun x st n cs hI=>by
  have hs:=amc (D:=D) (W:=W) (na:=na) (wd:=wd) (lk:=lk) (x:=x) (st:=st) (n:=n) (cs:=cs)
  have hl:(nq D W na wd lk (x :: st,n,cs)).2.2.length<=cs.length+1:=by
   rw [nq]
   split
   ·simp
   ·split
    ·simp
    ·split<;>simp
  have hI2:cs.length+gV D (x :: st)<=C:=hI
  show _+_<=C
  omega) (gV D s.1) (bF _) h (afn D W na wd lk s)).1
 exact bb (Nat.le_add_right _ _) this
instance (x y:Rat):Decidable (y6 x y):=by unfold y6;exact inferInstance
instance (x y:Rat):Decidable (acz x y):=by unfold acz;exact inferInstance
namespace avw
theorem aw {p q:Prop} (k:q) (e:p=q:=by simp only [e1,e2,e3,e4,p1,p2,p3,q1,q2,q3,l1,t0,t1,r1,r2,r3,r4,Nat.zero_add,Nat.reduceMul,Nat.reduceAdd,b1,b2,b3,b4,b5,b6,i1,i2,i3,i4,i5,i6,Nat.reduceBEq,List.length_map,List.getD_cons_zero,List.getD_cons_succ,nW,aG cN,mN,cn,fo,eO,dW,List.length_cons,List.length_nil,List.nil_append,List.map_nil,List.take_nil,List.append_nil,List.set_cons_zero,List.set_cons_succ,Nat.reduceEqDiff,reduceIte,if_true,if_false,cB,dB,aG aX,aG bz,aG an,cA,cC,LV.kill,bH];exact rfl):p:=e.mpr k
end avw
open avw in
theorem aDI (a b c d e:Int) (ha:-9223372036854775808<=a/\a<=9223372036854775807) (hb:-9223372036854775808<=b/\b<=9223372036854775807) (hc:-9223372036854775808<=c/\c<=9223372036854775807) (hd:-9223372036854775808<=d/\d<=9223372036854775807) (he:-9223372036854775808<=e/\e<=9223372036854775807):ax ak 4 [iL a,iL b,iL c,iL d,iL e] (bL true):=by
 obtain⟨dn,nv⟩:∃ dn:Nat,e % 4=(dn:Int):=⟨(e % 4).toNat,J⟩
 have mj:dn<=3:=by omega
 have hMx:=ari a c ha hc
 have hMy:=ari b d hb hd
 have kx:=auf a c
 have ky:=auf b d
 generalize rtV a c=x at hMx kx
 generalize rtV b d=y at hMy ky
 have rx:=ahy kx
 have ry:=ahy ky
 have r1:rl 1=1:=rfl
 have r0:rl 0=1:=rfl
 have w6:ax ak 17 [iL 1] (aa 1):=aaX 1 ai ai
 have hM4:ax ak 10 [iL e,iL 4] (iL (e % 4)):=akJ e 4 ai ai
 have te:LV.pure (.agg [ae 1,.list 3 ((aA 1 0 1).map aa),.list 12 ((uP x y (0,1)).map bm)])=true:=by simp [LV.pure,aK,aP an,aP bz]
 have lj:LV.pure (.agg [ae 1,ae 1,.list 3 ((aA 1 0 1).map aa),.list 3 ((aA 1 0 1).map aa),.list 1 ((eJ (0,1) (0,1)).map a5)])=true:=by simp [LV.pure,aK,aP an,aP cN]
 have agT:LV.pure (.agg [iL (e % 4),iL 200,aa 0])=true:=by simp [LV.pure,aK,an.pure]
 obtain⟨cls,ae2⟩:∃ l,l=(tH dn 200 1 0 (lP x y) ([tr],0,[])).2.2:=⟨_,rfl⟩
 have hM:ax ak 18 [.agg [ae 1,.list 3 ((aA 1 0 1).map aa),.list 12 ((uP x y (0,1)).map bm)],.agg [ae 1,ae 1,.list 3 ((aA 1 0 1).map aa),.list 3 ((aA 1 0 1).map aa),.list 1 ((eJ (0,1) (0,1)).map a5)],.agg [iL (e % 4),iL 200,aa 0]] (.a9 [.list 4 (cls.map iW),iL 0]):=by
  have:=ald kx ky dn 200 mj ai
  rw [<-ae2] at this
  rw [nv]
  exact this
 have hc3:y6 x y->cls=[(([cS],[cS,cS],3,0):jc)]:=fun h=>by rw [ae2,aqg h dn 200 ai]
 have hc4:acz x y->cls=[]:=fun h=>by rw [ae2,auR h dn 200 ai]
 have hc5:¬y6 x y->∀ c∈cls,c.2.2.1≠3:=fun h=>by rw [ae2];exact aCM h dn 200
 have mC:cls.length<=100000000:=by
  rw [ae2]
  refine aDe _ ?_
  have hp:2 ^ dn<=2 ^ 3:=oy ai mj
  show 0+(2*2 ^ (dn-0)-1+0)<=_
  rw [Nat.sub_zero]
  omega
 have hcx:=agJ x 1 J
 have hcy:=agJ y 1 J
 have o5:=ahE x
 have hsy:=ahE y
 refine aR Tryz.func4 ?_
 refine bB ?_
 refine cp au (hMx) ?_
 refine aH ?_
 refine cp au (hMy) ?_
 refine bg ?_
 refine cp aO (w6) ?_
 refine bg ?_
 refine cp au (alx x y) ?_
 refine cp am0 (an8) ?_
 refine ao ?_
 refine cp au (hM4) ?_
 refine ah rfl (show aN _ _ _ _ (.agg [iL (e % 4),iL 200,aa 0]) from .build (zs:=[.v (.int .i64 0),.v (.int .i64 0),aa 0]) (by simpa [lay,LV.av,cL,ad0,an.av,an.isAgg] using aiW) Z41 (by simp only [agU];exact⟨⟨_,rfl,rfl,jH⟩,⟨_,rfl,rfl,jH⟩,fun _ h=>by cases h⟩)) ?_
 try refine aw ?_
 refine bM rfl (.cons (.pure te) (.cons (.pure lj) (.cons (.pure agT) .nil))) (hM) ?_
 refine bg ?_
 refine ia (fun L=>∃ (bi:Bool) (L1:St),(bi=decide (y6 x y))/\L=((((((((St.mk L1.slot (hp [(11,⟨3,[aa x],true⟩),(12,⟨3,[aa y],true⟩),(13,⟨3,[aa 1],true⟩)])).put (some 10) (bL false)).put (some 11) (.aF 11 3 0 0)).put (some 12) (.aF 12 3 0 0)).put (some 13) (.aF 13 3 0 0)).put (some 14) (.list 4 (cls.map iW))).put (some 15) (iL 0)).put (some 16) (bL bi))) ?_ ?_
 ·refine aH ?_
  refine cp aO (o5) ?_
  refine aH ?_
  refine ep 40 rfl ?_ ?_<;>intro zi pS
  ·refine ao ?_
   refine cp aO (hsy) ?_
   refine aQ ?_
   refine ep 45 rfl ?_ ?_<;>intro anY h45
   ·refine aH ?_
    refine cp au (hcx) ?_
    refine aQ ?_
    refine ep 51 rfl ?_ ?_<;>intro anB h51
    ·refine aH ?_
     refine cp au (hcy) ?_
     refine a7 ?_
     exact⟨(decide (gp y 1<0)),_,(decide_eq_decide.2 (abW.trans ⟨fun d=>⟨aiw.1 (of_decide_eq_true zi),abW.1 (of_decide_eq_true anB),aiw.1 (of_decide_eq_true anY),d⟩,fun h=>h.2.2.2⟩)),((aj (aj (aj (aj (aj (aj (aj (bJ cl) cl) cl) cl) cl) cl) cl) cl)).symm⟩
    ·refine bg ?_
     exact⟨false,_,(decide_eq_false fun h=>absurd (abW.2 h.2.1) (of_decide_eq_false anB)).symm,((aj (aj (aj (aj (aj (aj (aj (bJ cl) cl) cl) cl) cl) cl) cl) cl)).symm⟩
   ·refine df ?_
    exact⟨false,_,(decide_eq_false fun h=>absurd (aiw.2 h.2.2.1) (of_decide_eq_false anY)).symm,((aj (aj (aj (aj (aj (aj (aj (bJ cl) cl) cl) cl) cl) cl) cl) cl)).symm⟩
  ·refine nc ?_
   exact⟨false,_,(decide_eq_false fun h=>absurd (aiw.2 h.1) (of_decide_eq_false zi)).symm,((aj (aj (aj (aj (aj (aj (aj (bJ cl) cl) cl) cl) cl) cl) cl) cl)).symm⟩
 ·rintro _ ⟨bi,LR4,tt,rfl⟩
  refine aH ?_
  refine ia (fun L=>∃ (bo:Bool) (L1:St),(bo=decide (acz x y))/\L=(((((((((St.mk L1.slot (hp [(11,⟨3,[aa x],true⟩),(12,⟨3,[aa y],true⟩),(13,⟨3,[aa 1],true⟩)])).put (some 10) (bL false)).put (some 11) (.aF 11 3 0 0)).put (some 12) (.aF 12 3 0 0)).put (some 13) (.aF 13 3 0 0)).put (some 14) (.list 4 (cls.map iW))).put (some 15) (iL 0)).put (some 16) (bL bi)).put (some 17) (bL bo))) ?_ ?_
  ·refine aH ?_
   refine cp aO (o5) ?_
   refine aH ?_
   refine ep 60 rfl ?_ ?_<;>intro arP h60
   ·refine nc ?_
    exact⟨true,_,(decide_eq_true (.inl (ai9.1 (of_decide_eq_true arP)))).symm,((aj (aj (aj (aj (aj (aj (aj (aj (bJ cl) cl) cl) cl) cl) cl) cl) cl) cl)).symm⟩
   ·refine ao ?_
    refine cp aO (hsy) ?_
    refine aQ ?_
    refine ep 65 rfl ?_ ?_<;>intro akY h65
    ·refine df ?_
     exact⟨true,_,(decide_eq_true (.inr (.inr (.inl (ai9.1 (of_decide_eq_true akY)))))).symm,((aj (aj (aj (aj (aj (aj (aj (aj (bJ cl) cl) cl) cl) cl) cl) cl) cl) cl)).symm⟩
    ·refine aH ?_
     refine cp au (hcx) ?_
     refine aQ ?_
     refine ep 71 rfl ?_ ?_<;>intro aj2 h71
     ·refine bg ?_
      exact⟨true,_,(decide_eq_true (.inr (.inl (sv.1 (of_decide_eq_true aj2))))).symm,((aj (aj (aj (aj (aj (aj (aj (aj (bJ cl) cl) cl) cl) cl) cl) cl) cl) cl)).symm⟩
     ·refine aH ?_
      refine cp au (hcy) ?_
      refine a7 ?_
      exact⟨(decide (gp y 1 > 0)),_,(decide_eq_decide.2 ⟨fun h=>.inr (.inr (.inr (sv.1 h))),fun h=>by
       rcases h with h | h | h | h
       ·exact absurd (ai9.2 h) (of_decide_eq_false arP)
       ·exact absurd (sv.2 h) (of_decide_eq_false aj2)
       ·exact absurd (ai9.2 h) (of_decide_eq_false akY)
       ·exact sv.2 h⟩),((aj (aj (aj (aj (aj (aj (aj (aj (bJ cl) cl) cl) cl) cl) cl) cl) cl) cl)).symm⟩
  ·rintro _ ⟨bo,LR5,hbo,rfl⟩
   refine bf ?_
   refine aL rfl ?_ ?_<;>intro amK h77
   ·have uo:y6 x y:=of_decide_eq_true (tt.symm.trans amK)
    obtain rfl:=hc3 uo
    have hHx:ax ak 11 [aD cS,aa x] (bL true):=by
     have:=arj cS x (by show rl 0+rl x<=_;omega) (by show rl x+rl 1<=_;omega)
     rwa [show jr cS x=true from by show (decide ((0:Rat)<=x) && decide (x<=(1:Rat)))=true;rw [decide_eq_true (show (0:Rat)<=x from mZ uo.1),decide_eq_true (show x<=(1:Rat) from mZ uo.2.1)];rfl] at this
    have hHy:ax ak 11 [aD cS,aa y] (bL true):=by
     have:=arj cS y (by show rl 0+rl y<=_;omega) (by show rl y+rl 1<=_;omega)
     rwa [show jr cS y=true from by show (decide ((0:Rat)<=y) && decide (y<=(1:Rat)))=true;rw [decide_eq_true (show (0:Rat)<=y from mZ uo.2.2.1),decide_eq_true (show y<=(1:Rat) from mZ uo.2.2.2)];rfl] at this
    refine ao ?_
    refine aY 46 al ?_
    refine aQ ?_
    refine ah (aM (v:=true) rfl rfl ((rfl)) rfl) (.move _) ?_
    refine ah (aM (v:=true) rfl rfl ((rfl)) rfl) pM ?_
    refine ah (aM (v:=true) rfl rfl ((rfl)) rfl) (.bin rfl rfl rfl) ?_
    refine ah rfl (.gU rfl ((rfl))) ?_
    refine ao ?_
    refine ah (aM (v:=true) rfl rfl ((rfl)) rfl) (.move _) ?_
    refine ah (aM (v:=true) rfl rfl ((rfl)) rfl) (.gD (n:=0) (r:=(.agg [.list 6 (((([cS],[cS,cS],3,0):jc)).1.map aD),.list 6 (((([cS],[cS,cS],3,0):jc)).2.1.map aD),ae ((([cS],[cS,cS],3,0):jc)).2.2.1,ae ((([cS],[cS,cS],3,0):jc)).2.2.2])) rfl oA pR rfl ai rfl rfl) ?_
    refine ah (aM (v:=true) rfl rfl ((rfl)) rfl) gr ?_
    refine ah (aM (v:=true) rfl rfl ((rfl)) rfl) dE ?_
    refine ah (aM (v:=true) rfl rfl ((rfl)) rfl) (.bin rfl rfl rfl) ?_
    refine ah rfl (.gU rfl ((rfl))) ?_
    refine ao ?_
    refine ah (aM (v:=true) rfl rfl ((rfl)) rfl) (.move _) ?_
    refine ah (aM (v:=true) rfl rfl ((rfl)) rfl) (.gD (n:=0) (r:=(.agg [.list 6 (((([cS],[cS,cS],3,0):jc)).1.map aD),.list 6 (((([cS],[cS,cS],3,0):jc)).2.1.map aD),ae ((([cS],[cS,cS],3,0):jc)).2.2.1,ae ((([cS],[cS,cS],3,0):jc)).2.2.2])) rfl oA pR rfl ai rfl rfl) ?_
    refine ah (aM (v:=true) rfl rfl ((rfl)) rfl) gr ?_
    refine ah (aM (v:=true) rfl rfl ((rfl)) rfl) dE ?_
    refine ah (aM (v:=true) rfl rfl ((rfl)) rfl) pM ?_
    refine ah (aM (v:=true) rfl rfl ((rfl)) rfl) (.bin rfl rfl rfl) ?_
    refine ah rfl (.gU rfl ((rfl))) ?_
    refine ao ?_
    refine ah (aM (v:=true) rfl rfl ((rfl)) rfl) (.move _) ?_
    refine ah (aM (v:=true) rfl rfl ((rfl)) rfl) (.gD (n:=0) (r:=(.agg [.list 6 (((([cS],[cS,cS],3,0):jc)).1.map aD),.list 6 (((([cS],[cS,cS],3,0):jc)).2.1.map aD),ae ((([cS],[cS,cS],3,0):jc)).2.2.1,ae ((([cS],[cS,cS],3,0):jc)).2.2.2])) rfl oA pR rfl ai rfl rfl) ?_
    refine ah (aM (v:=true) rfl rfl ((rfl)) rfl) gr ?_
    refine ah (aM (v:=true) rfl rfl ((rfl)) rfl) dE ?_
    refine ah (aM (v:=true) rfl rfl ((rfl)) rfl) (.gD (n:=0) (r:=aD cS) rfl qd jM rfl ai rfl (bl.av _)) ?_
    refine ah (aM (v:=true) rfl rfl ((rfl)) rfl) dE ?_
    refine ah (aM (v:=true) rfl rfl ((rfl)) rfl) dE ?_
    refine bM (aM (v:=true) rfl rfl ((rfl)) rfl) (.cons cG (.cons cG .nil)) (hHx) ?_
    refine ah rfl (.gU rfl ((rfl))) ?_
    refine ao ?_
    refine ah (aM (v:=true) rfl rfl ((rfl)) rfl) (.move _) ?_
    refine ah (aM (v:=true) rfl rfl ((rfl)) rfl) (.gD (n:=0) (r:=(.agg [.list 6 (((([cS],[cS,cS],3,0):jc)).1.map aD),.list 6 (((([cS],[cS,cS],3,0):jc)).2.1.map aD),ae ((([cS],[cS,cS],3,0):jc)).2.2.1,ae ((([cS],[cS,cS],3,0):jc)).2.2.2])) rfl oA pR rfl ai rfl rfl) ?_
    refine ah (aM (v:=true) rfl rfl ((rfl)) rfl) gr ?_
    refine ah (aM (v:=true) rfl rfl ((rfl)) rfl) dE ?_
    refine ah (aM (v:=true) rfl rfl ((rfl)) rfl) (.gD (n:=1) (r:=aD cS) rfl qd jM rfl ai rfl (bl.av _)) ?_
    refine ah (aM (v:=true) rfl rfl ((rfl)) rfl) dE ?_
    refine ah (aM (v:=true) rfl rfl ((rfl)) rfl) dE ?_
    refine bM (aM (v:=true) rfl rfl ((rfl)) rfl) (.cons cG (.cons cG .nil)) (hHy) ?_
    refine ah rfl (.gU rfl ((rfl))) ?_
    refine ao ?_
    refine bM (aM (v:=true) rfl rfl ((rfl)) rfl) .nil (akQ) ?_
    refine ah rfl (.gU rfl ((rfl))) ?_
    refine a7 ?_
    exact jL
   ·have my:¬y6 x y:=of_decide_eq_false (tt.symm.trans amK)
    have yR:=hc5 my
    refine bB ?_
    refine dI (fun(i:Nat) L=>(((((St.mk L.slot (hp [(11,⟨3,[aa x],true⟩),(12,⟨3,[aa y],true⟩),(13,⟨3,[aa 1],true⟩)])).put (some 14) (.list 4 (cls.map iW))).put (some 15) (iL 0)).put (some 17) (bL bo)).put (some 18) (ae i))) (fun i=>i<=cls.length) (fun i=>cls.length-i) 0 (bS _) ?_
    rintro i L1 hil
    refine bB ?_
    refine aL rfl ?_ ?_<;>intro aKZ aLX
    ·have dq:i<cls.length:=by omega
     have hci:(cls.getD i default)=cls[i]:=by rw [bE,bY dq];rfl
     have hce:(cls.map iW)[(i:Int).toNat]?=some (.agg [.list 6 (((cls.getD i default)).1.map aD),.list 6 (((cls.getD i default)).2.1.map aD),ae ((cls.getD i default)).2.2.1,ae ((cls.getD i default)).2.2.2]):=by
      rw [Int.toNat_natCast,gZ,bY dq,hci];rfl
     refine bg ?_
     refine ah rfl (.gD (n:=i) (r:=(.agg [.list 6 (((cls.getD i default)).1.map aD),.list 6 (((cls.getD i default)).2.1.map aD),ae ((cls.getD i default)).2.2.1,ae ((cls.getD i default)).2.2.2])) rfl oA pR rfl J hce rfl) ?_
     refine a7 ?_
     refine aL rfl ?_ ?_<;>intro aFW aKT
     ·have hm:=yR (cls.getD i default) (by rw [hci];exact qx dq)
      have h9:((((cls.getD i default).2.2.1:Nat):Int)==3)=true:=aFW
      rw [beq_iff_eq] at h9
      omega
     ·refine a7 ?_
      refine ah rfl cu ?_
      refine aQ ?_
      exact lK
    ·refine bh ?_
     refine ah (aM (v:=true) rfl rfl ((rfl)) rfl) (.move _) ?_
     refine ah (aM (v:=true) rfl rfl ((rfl)) rfl) (.not rfl) ?_
     refine ah (aM (v:=true) rfl rfl ((rfl)) rfl) (.move _) ?_
     refine ep 140 rfl ?_ ?_<;>intro aiV aJM
     ·refine aQ ?_
      refine ah (aM (v:=true) rfl rfl ((rfl)) rfl) (.gU rfl (aiV)) ?_
      refine ah rfl (.gU rfl ((rfl))) ?_
      refine ao ?_
      refine cp am0 (akQ) ?_
      refine a7 ?_
      exact jL
     ·have ho:acz x y:=of_decide_eq_true (hbo.symm.trans (by simpa using aiV))
      have e0:=hc4 ho
      refine aQ ?_
      refine ah (aM (v:=true) rfl rfl ((rfl)) rfl) (.m9 rfl (aiV)) ?_
      refine ah rfl (.gU rfl ((rfl))) ?_
      refine ao ?_
      refine bM (aM (v:=true) rfl rfl ((by rw [e0];rfl)) rfl) .nil (akQ) ?_
      refine ah rfl (.gU rfl ((by rw [e0];rfl))) ?_
      refine aB ?_
      exact jL
end Go.Proofs.YthcadngkamjpdaaGreat
end
