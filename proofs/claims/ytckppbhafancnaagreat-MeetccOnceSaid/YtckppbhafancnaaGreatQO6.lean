/- Texts K21, Z1, Z2, U2, U3, U4, U7, A3, Y0, K25, K26, A4, A1 of this proof, joined. -/
import Derived.Test.YtckppbhafancnaaGreatQO5
set_option linter.unusedVariables false
set_option linter.unusedSimpArgs false
open And renaming intro->je
open Go.Proofs.Tryz renaming func242->aqZ,prog->al,underlying137->zt,underlying155->rR,underlying165->v9,underlying25->dE,underlying26->vX,underlying49->od
open Int renaming toNat_natCast->abP
open List renaming append_assoc->xh,append_nil->mV,count_replicate->atU,drop_append_of_le_length->akX,drop_left'->acb,drop_of_length_le->jQ,drop_replicate->ayg,drop_succ_cons->ai2,drop_zero->lQ,ext_getElem->uJ,getD_eq_getElem?_getD->bz,getElem?_eq_getElem->cq,getElem?_map->iV,getElem?_range->atK,getElem_drop->amw,getElem_map->amZ,getElem_mem->p6,getElem_range->alw,getElem_take->am6,length_append->k5,length_cons->qJ,length_drop->kE,length_map->fo,length_replicate->tf,length_set->aq4,length_take->eG,map_append->abB,map_drop->ael,map_set->at3,map_take->xg,mem_append->oy,mem_cons->fu,mem_map->da,mem_of_mem_drop->vL,mem_of_mem_take->vM,mem_replicate->so,mem_singleton->iM,not_mem_nil->jn,range->cW,replicate->ay,replicate_succ'->agK,take_add_one->zb,take_append->axP,take_append_of_le_length->as6,take_left'->afO,take_length->nn,take_of_length_le->de,take_succ_cons->xy,take_zero->abG
open Nat renaming le_refl->bp,le_trans->a9,lt_or_ge->gM,lt_succ_iff_lt_or_eq->alK,min_eq_left->lL,min_le_left->amr,mul_comm->fy,mul_le_mul->nz,not_lt_zero->ahG,one_le_two_pow->amg,pow_le_pow_right->lO,pow_succ->jg,sub_self->pB,zero_add->fw,zero_le->b8
open Rat renaming add_zero->ks,div_def->jo,div_mul_cancel->kP,intCast_le_intCast->adk,intCast_mul->r8,intCast_pos->vw,le_of_lt->gR,le_refl->gg,mul_div_cancel->vo,mul_le_mul_of_nonneg_right->oA
section
set_option linter.unusedVariables false
set_option linter.unusedSimpArgs false
set_option maxHeartbeats 8000000
set_option maxRecDepth 100000
attribute [local irreducible] Go.Lg.opsL Go.Lg.cP Go.Lg.px Go.Lg.ss
namespace Go.Proofs.YtckppbhafancnaaGreat
open Go.Lg
def bq (d:Nat) (a b:Rat):List Rat:=ay (d+1) a++ay (d+1) b
theorem lj (d:Nat) (a b:Rat):(bq d a b).length=2*(d+1):=by simp [bq];omega
theorem im (d:Nat) (a b:Rat) (i:Nat) (h:i<2*(d+1)):(bq d a b).getD i 0=if i<d+1 then a else b:=by
 unfold bq
 split
 ·rw [x8 bw,u5 ae]
 ·rw [yK bw,tf,u5 ae]
theorem aaF (d:Nat) (a b:Rat):(bq d a b).getD 0 0=a:=by rw [im _ _ _ _ ae,if_pos ae]
theorem abR (d:Nat) (a b:Rat):(bq d a b).getD (2*(d+1)-1) 0=b:=by rw [im _ _ _ _ ae,if_neg ae]
theorem acX {d:Nat} {a b:Rat} {R:Nat} (ha:rl a<=R) (hb:rl b<=R):∀ x∈bq d a b,rl x<=R:=fun x hx=>by
 rcases oy.1 hx with g | g
 ·rw [(so.1 g).2];exact ha
 ·rw [(so.1 g).2];exact hb
theorem aF9 {d m:Nat} {a b:Rat} (h:m<2*(d+1)) (h2:m<=d):(bq d a b).take m++[a]=(bq d a b).take (m+1):=by
 have e:=im d a b m h
 rw [if_pos ae] at e
 rw [<-abU (l:=bq d a b) (k:=m) (by rw [lj];exact h),e]
theorem aDr {d m:Nat} {a b:Rat} (h:m<2*(d+1)) (h2:¬m<=d):(bq d a b).take m++[b]=(bq d a b).take (m+1):=by
 have e:=im d a b m h
 rw [if_neg ae] at e
 rw [<-abU (l:=bq d a b) (k:=m) (by rw [lj];exact h),e]
theorem aIC {a b:Rat} (h:a<b):iy a b=a:=by unfold iy;rw [if_neg cG]
theorem aDS {a b:Rat} (h:a<b):ib a b=b:=by unfold ib;rw [if_pos h]
theorem auH {p:List Rat} {x:Rat} (hl:p.length<=7) (hp:∀ y∈p,rl y<=7000000) (hx:rl x<=100000):HS p x:=by
 have h1:=jm 1 x
 have h0:rl 1=1:=rfl
 refine⟨rl (1-x)+rl x+1,bp _,ae,fun y hy=>?_⟩
 have h2:=hp y hy
 have h3:2 ^ p.length<=2 ^ 7:=lO ak hl
 have h4:(rl y+(rl (1-x)+rl x+1))*2 ^ p.length<=8000000*2 ^ 7:=nz ae h3
 omega
theorem aDl {p:List Rat} {x:Rat} {R S:Nat} (hl:p.length<=7) (hp:∀ y∈p,rl y<=R) (hR:1<=R) (hx:rl (1-x)+rl x+1<=S):∀ y∈nq p x,rl y<=(R+S)*64:=fun y hy=>by
 obtain⟨j,hj,rfl⟩:=List.mem_iff_getElem.1 hy
 have jf:j<p.length:=by rw [aan] at hj;exact hj
 have e:(nq p x)[j]=(nq p x).getD j 0:=by rw [bz,cq hj];rfl
 rw [e,ahP jf]
 have h1:=aip (a:=1-x) (b:=x) (p.length-1-j) (fun i=>p.getD (j+i) 0) R (fun i=>iG hR hp _)
 have h2:2 ^ (p.length-1-j)<=64:=lO (n:=2) ak (show p.length-1-j<=6 by omega)
 exact a9 h1 (nz ae h2)
theorem aAY {n:Nat} (h:2*n<=9223372036854775807):dL .mul .i64 2 (n:Nat)=some (.int .i64 ((2*n:Nat):Int)):=by
 rw [ah4 ae ae];congr 2
theorem axU (d sz:Nat) (x z:LV) (Z:Nat->Prop) (μ:Nat->Option Nat) (w:World) (cs:List Value) (h:aC Z μ w (.agg [x,.v (.slice none 0 0),z]) cs):aC Z μ w (.agg [x,.ref d sz 0 0,z]) cs:=by
 simp only [aC,cA] at h ⊢
 obtain⟨c1,c2,e1,e2,e3,c3,c4,e4,e5,e6,c5,c6,e7,e8,e9,e10⟩:=h
 exact⟨c1,c2,e1,e2,e3,c3,c4,e4,e5,.inl ⟨e6.1,trivial⟩,c5,c6,e7,e8,e9,e10⟩
namespace asO
theorem aM {p q:Prop} (k:q) (e:p=q:=by simp only [e1,e2,e3,e4,p1,p2,p3,q1,q2,q3,l1,t0,t1,r1,r2,r3,r4,Nat.zero_add,Nat.reduceMul,Nat.reduceAdd,b1,b2,b3,b4,b5,b6,i1,i2,i3,i4,i5,i6,Nat.reduceBEq,gL,iA,mG,mB,jB,List.length_cons,List.length_nil,List.nil_append,List.map_nil,List.take_nil,List.append_nil,List.set_cons_zero,List.set_cons_succ,Nat.reduceEqDiff,reduceIte,if_true,if_false,eN,fb,aV bo,aV bH,aV ar,cY,et,LV.kill,b7];exact rfl):p:=e.mpr k
end asO
open asO in
theorem aHN (d:Nat) (kn:List Rat) (po:List aK) (R:Nat) (hR:R<=1000000) (h:qq po d R):ax al 99 [.agg [ai d,.list 3 (kn.map ah),.list 12 (po.map aW)]] (.list 9 ((po.map (·.p)).map a6)):=by
 have hl:=h.hl
 have hd:=h.hd
 have h6:=h.h6
 have gJ:LV.pure (.agg [ai d,.list 3 (kn.map ah),.list 12 (po.map aW)])=true:=by simp [LV.pure,aN,a7 ar,a7 bH]
 refine aS Tryz.func99 (ht:=(fun g=>LV.df g _ (fh bo _ _))) ?_
 have gL:True:=trivial
 have iA:True:=trivial
 refine aaA ?_
 refine kY ((az.kill _ 1).trans (az.own (t:=3) 17 9 rfl rfl)) ?_
 refine dU (fun(i:Nat) L=>(((((St.mk L.slot (hp [(17,⟨9,((po.map (·.p)).take i).map a6,true⟩)])).put (some 3) (.ref 17 9 0 i)).put (some 7) (.list 12 (po.map aW))).put (some 8) (ai po.length)).put (some 9) (ai i))) (fun i=>i<=po.length) (fun i=>po.length-i) 0 (b8 _) ?_
 rintro i L1 hi
 refine aD ?_
 refine aF rfl ?_ ?_<;>intro nE qN
 ·have dR:i<po.length:=by omega
  have iA:=aci (·.p) po dR
  have htl:((po.map (·.p)).take i).length=i:=by rw [eG,fo];omega
  have gL:(((po.map (·.p)).take i).map a6).take i=((po.map (·.p)).take i).map a6:=de ma
  refine jw ?_
  refine bU rfl (.iw (d:=17) (news:=[a6 (po.getD i default).p]) rfl rfl rfl rfl bw (.inl rfl) ak v9 v9 Z40 ju cs B40 (.inl ⟨16,0,_,rfl,by decide,rfl,rfl,by simp,rfl,by simp [aN,bo.pure]⟩) bw bw ak) ?_
  refine aA ?_
  refine cy ((az.kill _ 5).trans (az.kill _ 16)) ?_
  refine ao rfl cM ?_
  refine aL ?_
  exact lR
 ·obtain rfl:i=po.length:=by omega
  have hE:(po.map (·.p)).take po.length=(po.map (·.p)):=de aT
  refine bF ?_
  simp only [hE]
  exact ow [17] rfl rfl (fC bo rfl rfl aT)
open gQ in
theorem axw (q:aK) (R:Nat) (hR:R<=1000000) (h:rC R q):ax al 153 [aW q] (.agg [ah (q.w*q.p.x),ah (q.w*q.p.y),ah (q.w*q.p.z),ah q.w]):=by
 obtain⟨⟨a1,a2,a3⟩,a4,_⟩:=h
 have hA:=jz q.w 0 (by have:rl 0=1:=rfl;omega)
 rw [ks] at hA
 refine aS Tryz.func153 (ht:=(fun g=>LV.df g _ pu)) ?_
 refine oz ?_
 refine bN ?_
 refine aD ?_
 refine cr (b:=_) rfl ak ?_
 refine oV ?_
 refine cp au (iz q.w q.p.x ae) ?_
 refine ba ?_
 refine cy (az.kill _ 5) ?_
 refine aA ?_
 refine bN ?_
 refine aD ?_
 refine cr (b:=_) rfl ak ?_
 refine oV ?_
 refine cp au (iz q.w q.p.y ae) ?_
 refine ba ?_
 refine cy (az.kill _ 5) ?_
 refine aA ?_
 refine bN ?_
 refine aD ?_
 refine cr (b:=_) rfl ak ?_
 refine oV ?_
 refine cp au (iz q.w q.p.z ae) ?_
 refine ba ?_
 refine cy (az.kill _ 5) ?_
 refine aA ?_
 refine bN ?_
 refine aD ?_
 refine fi (b:=_) rfl ak ?_
 refine bE ?_
 refine ao rfl qc ?_
 refine cp au (hA) ?_
 refine bD ?_
 exact ij [] rfl rfl rfl cs (dS cs rfl) aa8 (.pure pu)
namespace aw5
theorem aM {p q:Prop} (k:q) (e:p=q:=by simp only [e1,e2,e3,e4,p1,p2,p3,q1,q2,q3,l1,t0,t1,r1,r2,r3,r4,Nat.zero_add,Nat.reduceMul,Nat.reduceAdd,b1,b2,b3,b4,b5,b6,i1,i2,i3,i4,i5,i6,Nat.reduceBEq,avB,au9,aeT,axA,ayc,atL,agm,avt,mG,mB,jB,List.length_cons,List.length_nil,List.nil_append,List.map_nil,List.take_nil,List.append_nil,List.set_cons_zero,List.set_cons_succ,Nat.reduceEqDiff,reduceIte,if_true,if_false,eN,fb,aV bo,aV bH,aV ar,cY,et,LV.kill,b7];exact rfl):p:=e.mpr k
end aw5
open aw5 in
theorem ahH (d:Nat) (kn:List Rat) (po:List aK) (R:Nat) (hR:R<=1000000) (h:qq po d R):ax al 93 [.agg [ai d,.list 3 (kn.map ah),.list 12 (po.map aW)]] (.agg [.list 3 ((bc po 0).map ah),.list 3 ((bc po 1).map ah),.list 3 ((bc po 2).map ah),.list 3 ((aO po).map ah)]):=by
 have hl:=h.hl
 have hd:=h.hd
 have h6:=h.h6
 have gJ:LV.pure (.agg [ai d,.list 3 (kn.map ah),.list 12 (po.map aW)])=true:=by simp [LV.pure,aN,a7 ar,a7 bH]
 have jb:=nS po 0
 have nh:=nS po 1
 have mZ:=nS po 2
 have hn3:=ni po
 refine aS Tryz.func93 (ht:=(fun g=>LV.df g _ (by simp [LV.pure,aN,a7 ar]))) ?_
 have avB:True:=trivial
 have au9:True:=trivial
 have aeT:True:=trivial
 have axA:True:=trivial
 have ayc:True:=trivial
 have atL:True:=trivial
 have agm:True:=trivial
 have avt:True:=trivial
 refine aaA ?_
 refine kY (((az.kill _ 1).trans (az.cell 3 rfl (fun Z μ w cs h=>aFl 1001 1002 1003 1004 3 Z μ w cs h))).trans ((az.wG _ 1001 3 rfl).trans ((az.wG _ 1002 3 rfl).trans ((az.wG _ 1003 3 rfl).trans (az.wG _ 1004 3 rfl))))) ?_
 refine dU (fun(j:Nat) L=>((((((St.mk L.slot (hp [(2,⟨4,[.agg [.v (.slice none 0 0),.v (.slice none 0 0),.v (.slice none 0 0),.v (.slice none 0 0)]],true⟩),(3,⟨4,[.agg [.ref 1001 3 0 j,.ref 1002 3 0 j,.ref 1003 3 0 j,.ref 1004 3 0 j]],true⟩),(1001,⟨3,((bc po 0).take j).map ah,true⟩),(1002,⟨3,((bc po 1).take j).map ah,true⟩),(1003,⟨3,((bc po 2).take j).map ah,true⟩),(1004,⟨3,((aO po).take j).map ah,true⟩)])).put (some 2) (.aB 2 4 0 0)).put (some 3) (.aB 3 4 0 0)).put (some 9) (.list 12 (po.map aW))).put (some 10) (ai po.length)).put (some 11) (ai j))) (fun j=>j<=po.length) (fun j=>po.length-j) 0 (b8 _) ?_
 rintro j L1 hj
 refine aD ?_
 refine aF rfl ?_ ?_<;>intro ads h12
 ·have jf:j<po.length:=by omega
  have fq:=h.ok _ (rX jf)
  have ayc:(bc po 0).take j++[(po.getD j default).w*(po.getD j default).p.x]=(bc po 0).take (j+1):=aci (fun q:aK=>q.w*q.p.at 0) po jf
  have atL:(bc po 1).take j++[(po.getD j default).w*(po.getD j default).p.y]=(bc po 1).take (j+1):=aci (fun q:aK=>q.w*q.p.at 1) po jf
  have agm:(bc po 2).take j++[(po.getD j default).w*(po.getD j default).p.z]=(bc po 2).take (j+1):=aci (fun q:aK=>q.w*q.p.at 2) po jf
  have avt:(aO po).take j++[(po.getD j default).w]=(aO po).take (j+1):=aci (fun q:aK=>q.w) po jf
  have avB:(((bc po 0).take j).map ah).take j=((bc po 0).take j).map ah:=de z9
  have au9:(((bc po 1).take j).map ah).take j=((bc po 1).take j).map ah:=de z9
  have aeT:(((bc po 2).take j).map ah).take j=((bc po 2).take j).map ah:=de z9
  have axA:(((aO po).take j).map ah).take j=((aO po).take j).map ah:=de z9
  refine iI ?_
  refine cp aQ (axw (po.getD j default) R hR fq) ?_
  refine aA ?_
  refine bN ?_
  refine aD ?_
  refine cr (b:=_) rfl ak ?_
  refine dG ?_
  refine ie 6 [0] an ?_
  refine aD ?_
  refine bU rfl (.iw (d:=1001) (news:=[ah ((po.getD j default).w*(po.getD j default).p.x)]) rfl rfl rfl rfl bw (.inl rfl) ak rR rR lU cZ rfl mj (.inl ⟨26,0,_,rfl,by decide,rfl,rfl,by simp,rfl,by simp [aN,ar.pure]⟩) bw bw ak) ?_
  refine ba ?_
  refine cy ((az.kill _ 7).trans (az.kill _ 26)) ?_
  refine aA ?_
  refine bN ?_
  refine aD ?_
  refine cr (b:=_) rfl ak ?_
  refine dG ?_
  refine ie 6 [0] an ?_
  refine aD ?_
  refine bU rfl (.iw (d:=1002) (news:=[ah ((po.getD j default).w*(po.getD j default).p.y)]) rfl rfl rfl rfl bw (.inl rfl) ak rR rR lU cZ rfl mj (.inl ⟨26,0,_,rfl,by decide,rfl,rfl,by simp,rfl,by simp [aN,ar.pure]⟩) bw bw ak) ?_
  refine ba ?_
  refine cy ((az.kill _ 7).trans (az.kill _ 26)) ?_
  refine aA ?_
  refine bN ?_
  refine aD ?_
  refine cr (b:=_) rfl ak ?_
  refine dG ?_
  refine ie 6 [0] an ?_
  refine aD ?_
  refine bU rfl (.iw (d:=1003) (news:=[ah ((po.getD j default).w*(po.getD j default).p.z)]) rfl rfl rfl rfl bw (.inl rfl) ak rR rR lU cZ rfl mj (.inl ⟨26,0,_,rfl,by decide,rfl,rfl,by simp,rfl,by simp [aN,ar.pure]⟩) bw bw ak) ?_
  refine ba ?_
  refine cy ((az.kill _ 7).trans (az.kill _ 26)) ?_
  refine aA ?_
  refine bN ?_
  refine aD ?_
  refine cr (b:=_) rfl ak ?_
  refine dG ?_
  refine ie 6 [0] an ?_
  refine aD ?_
  refine bU rfl (.iw (d:=1004) (news:=[ah ((po.getD j default).w)]) rfl rfl rfl rfl bw (.inl rfl) ak rR rR lU cZ rfl mj (.inl ⟨26,0,_,rfl,by decide,rfl,rfl,by simp,rfl,by simp [aN,ar.pure]⟩) bw bw ak) ?_
  refine ba ?_
  refine cy ((az.kill _ 7).trans (az.kill _ 26)) ?_
  refine aA ?_
  refine bN ?_
  refine aD ?_
  refine fi (b:=_) rfl ak ?_
  refine aD ?_
  refine cy (az.kill _ 5) ?_
  refine ao rfl cM ?_
  refine aL ?_
  exact yC
 ·obtain rfl:j=po.length:=by omega
  have hE0:(bc po 0).take po.length=(bc po 0):=de ae
  have hE1:(bc po 1).take po.length=(bc po 1):=de ae
  have zZ:(bc po 2).take po.length=(bc po 2):=de ae
  have hE3:(aO po).take po.length=(aO po):=de ae
  refine bF ?_
  simp only [hE0,hE1,zZ,hE3]
  exact ij [1001,1002,1003,1004] rfl rfl rfl cs (dS cs rfl) avS (.agg (.cons (fC ar rfl rfl jb.symm) (.cons (fC ar rfl rfl nh.symm) (.cons (fC ar rfl rfl mZ.symm) (.cons (fC ar rfl rfl hn3.symm) .nil)))))
namespace asn
theorem aM {p q:Prop} (k:q) (e:p=q:=by simp only [e1,e2,e3,e4,p1,p2,p3,q1,q2,q3,l1,t0,t1,r1,r2,r3,r4,Nat.zero_add,Nat.reduceMul,Nat.reduceAdd,b1,b2,b3,b4,b5,b6,i1,i2,i3,i4,i5,i6,Nat.reduceBEq,cN,ir,cd,iC,List.length_map,List.set_cons_zero,List.set_cons_succ,Nat.reduceEqDiff,reduceIte,if_true,if_false,eN,fb,aV bo,aV bH,aV ar,cY,et,LV.kill,b7];exact rfl):p:=e.mpr k
end asn
open asn in
theorem ahl (d:Nat) (a b:Rat) (po:List aK) (ha:rl a<=100) (hb:rl b<=100) (cL:a<b) (h9:d<=6):ax al 41 [.agg [ai d,.list 3 ((bq d a b).map ah),.list 12 (po.map aW)]] (aH (a,b)):=by
 have ir:=lj d a b
 have cd:=aaF d a b
 have iC:=abR d a b
 have gJ:LV.pure (.agg [ai d,.list 3 ((bq d a b).map ah),.list 12 (po.map aW)])=true:=by simp [LV.pure,aN,a7 ar,a7 bH]
 have hS:=ab2 a b ae
 rw [aIC cL,aDS cL] at hS
 refine aS Tryz.func41 ?_
 refine iI ?_
 refine aF rfl ?_ ?_<;>intro xr h6
 ·omega
 ·refine aL ?_
  refine a8 13 an ?_
  refine bE ?_
  refine ao rfl kL ?_
  refine aP ?_
  try simp only [t1,cN,ir,cd,iC,fo]
  refine cp au (hS) ?_
  refine aA ?_
  exact tO
open gQ in
theorem ans (d:Nat) (a b:Rat) (po:List aK) (ha:rl a<=100) (hb:rl b<=100) (cL:a<b) (h9:d<=6) (t x:Rat) (ht:rl t<=100) (h1:a<=t) (h2:t<=b) (hx:(t-a)/(b-a)=x) (oh:0<po.length):ax al 91 [.agg [ai d,.list 3 ((bq d a b).map ah),.list 12 (po.map aW)],ah t] (.bf [ah x,ah (b-a),bL true]):=by
 have ir:=lj d a b
 have cd:=aaF d a b
 have iC:=abR d a b
 have gJ:LV.pure (.agg [ai d,.list 3 ((bq d a b).map ah),.list 12 (po.map aW)])=true:=by simp [LV.pure,aN,a7 ar,a7 bH]
 have ye:=jm t a
 have hz2:=jm b a
 have hD:=ahl d a b po ha hb cL h9
 have hW:ax al 164 [aH (a,b)] (ah (b-a)):=alZ (a,b) (by show rl b+rl a<=_;omega)
 have hQ:ax al 169 [ah (t-a),ah (b-a)] (.bf [ah x,iL 0]):=by
  have:=wu (t-a) (b-a) ae
  rw [if_neg cG,hx] at this
  exact this
 have hH:ax al 103 [aH (a,b),ah t] (bL true):=by
  have:=ai9 (a,b) t (by show rl a+rl t<=_;omega) (by show rl t+rl b<=_;omega)
  unfold il at this
  rw [decide_eq_true h1,decide_eq_true h2] at this
  exact this
 refine aS Tryz.func91 (ht:=(ahW (ar.pure _) (ar.pure _) rfl)) ?_
 refine bF ?_
 refine cp aQ (hD) ?_
 refine bF ?_
 refine dg 15 rfl ?_ ?_<;>intro pR mT
 ·omega
 ·refine aP ?_
  refine cp au (hH) ?_
  refine aA ?_
  refine aF rfl ?_ ?_<;>intro aay h20
  ·first | exact h20.elim | cases aay
  ·refine ba ?_
   refine cp aQ (hW) ?_
   refine aA ?_
   refine ie 9 [8] an ?_
   refine aL ?_
   refine cp au (rN t a ae) ?_
   refine av ?_
   refine cp au (hQ) ?_
   refine bn ?_
   refine aaM ?_
   refine eT 2 rfl rfl an (.pure (.move _)) gz eU ?_
   refine eT 3 rfl rfl an (.pure biA) gz eU ?_
   refine jL 0 1 _ _ an rfl rfl ?_ ?_
   ·refine av ?_
    refine aJ ?_
    refine jL 1 4 _ _ an rfl rfl ?_ ?_
    ·refine av ?_
     refine aJ ?_
     refine aZ 4 _ an rfl ?_
     refine av ?_
     refine aJ ?_
     refine aZ 5 _ an rfl ?_
     refine av ?_
     refine aJ ?_
     refine aZ 6 _ an rfl ?_
     refine av ?_
     refine aJ ?_
     refine fx an ?_
     refine aP ?_
     exact anU
    ·refine av ?_
     refine aJ ?_
     refine aZ 1 _ an rfl ?_
     refine av ?_
     refine aJ ?_
     refine aZ 5 _ an rfl ?_
     refine av ?_
     refine aJ ?_
     refine aZ 6 _ an rfl ?_
     refine av ?_
     refine aJ ?_
     refine fx an ?_
     refine aP ?_
     exact anU
   ·refine av ?_
    refine aJ ?_
    refine aZ 0 _ an rfl ?_
    refine av ?_
    refine aJ ?_
    refine aZ 4 _ an rfl ?_
    refine av ?_
    refine aJ ?_
    refine aZ 5 _ an rfl ?_
    refine av ?_
    refine aJ ?_
    refine aZ 6 _ an rfl ?_
    refine av ?_
    refine aJ ?_
    refine fx an ?_
    refine aP ?_
    exact anU
namespace ajy
theorem aM {p q:Prop} (k:q) (e:p=q:=by simp only [e1,e2,e3,e4,p1,p2,p3,q1,q2,q3,l1,t0,t1,r1,r2,r3,r4,Nat.zero_add,Nat.reduceMul,Nat.reduceAdd,b1,b2,b3,b4,b5,b6,i1,i2,i3,i4,i5,i6,Nat.reduceBEq,List.getD_cons_zero,List.set_cons_zero,List.set_cons_succ,Nat.reduceEqDiff,reduceIte,if_true,if_false,eN,fb,aV bo,aV bH,aV ar,cY,et,LV.kill,b7];exact rfl):p:=e.mpr k
end ajy
open ajy in
theorem ase (n0 n1 n2 w:Rat) (R:Nat) (hR:R<=1000000000) (h0:rl n0<=R) (h1:rl n1<=R) (h2:rl n2<=R) (hw:rl w<=R) (my:0<w):ax al 96 [.agg [ah n0,ah n1,ah n2,ah w]] (aW ⟨⟨n0/w,n1/w,n2/w⟩,w⟩):=by
 have hA:=jz w 0 (by have:rl 0=1:=rfl;omega)
 rw [ks] at hA
 have aX:w≠0:=by grind
 have hQ0:ax al 169 [ah n0,ah w] (.bf [ah (n0/w),iL 0]):=by
  have:=wu n0 w ae
  rwa [if_neg aX] at this
 have hQ1:ax al 169 [ah n1,ah w] (.bf [ah (n1/w),iL 0]):=by
  have:=wu n1 w ae
  rwa [if_neg aX] at this
 have hQ2:ax al 169 [ah n2,ah w] (.bf [ah (n2/w),iL 0]):=by
  have:=wu n2 w ae
  rwa [if_neg aX] at this
 refine aS Tryz.func96 (ht:=(fun g=>LV.df g _ (bH.pure _))) ?_
 refine bn ?_
 try simp only [List.getD_cons_zero]
 refine aP ?_
 refine ao rfl qc ?_
 refine cp au (hA) ?_
 refine rO (bdW rfl) ?_
 refine bD ?_
 refine bN ?_
 refine aD ?_
 refine cr (b:=_) rfl ak ?_
 refine bI ?_
 refine ie 12 [9] an ?_
 refine aD ?_
 refine cp au (hQ0) ?_
 refine dH ?_
 refine bN ?_
 refine aD ?_
 refine cr (b:=_) rfl ak ?_
 refine bI ?_
 refine ie 12 [9] an ?_
 refine aD ?_
 refine cp au (hQ1) ?_
 refine dH ?_
 refine bN ?_
 refine aD ?_
 refine cr (b:=_) rfl ak ?_
 refine bI ?_
 refine ie 12 [9] an ?_
 refine aD ?_
 refine cp au (hQ2) ?_
 refine dH ?_
 refine bN ?_
 refine aD ?_
 refine fi (b:=_) rfl ak ?_
 refine bF ?_
 exact ij [] rfl rfl rfl cs (dS cs rfl) tW (.pure pu)
namespace awZ
theorem aM {p q:Prop} (k:q) (e:p=q:=by simp only [e1,e2,e3,e4,p1,p2,p3,q1,q2,q3,l1,t0,t1,r1,r2,r3,r4,Nat.zero_add,Nat.reduceMul,Nat.reduceAdd,b1,b2,b3,b4,b5,b6,i1,i2,i3,i4,i5,i6,Nat.reduceBEq,List.take_zero,gL,aw3,arW,iA,cN,jb,nh,mZ,hn3,List.length_map,mG,mB,jB,List.length_cons,List.length_nil,List.nil_append,List.map_nil,List.take_nil,List.append_nil,List.set_cons_zero,List.set_cons_succ,Nat.reduceEqDiff,reduceIte,if_true,if_false,eN,fb,aV bo,aV bH,aV ar,cY,et,LV.kill,b7];exact rfl):p:=e.mpr k
end awZ
open awZ in
theorem aBK (d:Nat) (a b:Rat) (po:List aK) (ha:rl a<=100) (hb:rl b<=100) (cL:a<b) (h9:d<=6) (lo hi x y:Rat) (qH:rl lo<=100) (uv:rl hi<=100) (k1:a<=lo) (k2:lo<hi) (k3:hi<=b) (hx:(lo-a)/(b-a)=x) (hy:(hi-a)/(b-a)=y) (fN:x<1) (wU:rl (1-x)+rl x+1<=20) (hyr:rl (1-y)+rl y+1<=20) (R:Nat) (hR:R<=1000000) (h:qq po d R) (hN:∀ k,∀ z∈bc po k,rl z<=100000) (hW:∀ z∈aO po,rl z<=100000) (iU:0<=x) (jO:0<=y) (kD:y<=1):ax al 43 [.agg [ai d,.list 3 ((bq d a b).map ah),.list 12 (po.map aW)],ah lo,ah hi] (.bf [.agg [ai d,.list 3 ((bq d lo hi).map ah),.list 12 ((nd po x y).map aW)],iL 0]):=by
 have hl:=h.hl
 have hd:=h.hd
 have h6:=h.h6
 have gJ:LV.pure (.agg [ai d,.list 3 ((bq d a b).map ah),.list 12 (po.map aW)])=true:=by simp [LV.pure,aN,a7 ar,a7 bH]
 have hOx:=ans d a b po ha hb cL h9 lo x qH k1 cG hx ae
 have hOy:=ans d a b po ha hb cL h9 hi y uv cG k3 hy ae
 have hcm:¬0<=gj lo hi:=fun e=>by have:=vY.1 e;grind
 have hrx:rl x<=20:=by omega
 have hry:rl y<=20:=by omega
 have tK:rl 0=1:=rfl
 have hAl:=jz lo 0 ae
 have hAh:=jz hi 0 ae
 rw [ks] at hAl hAh
 have ir:=lj d lo hi
 have hw3:=adf h
 have oI:=abH h 0
 have ri:=abH h 1
 have hq2:=abH h 2
 have jb:(eQ (bc po 0) x y).length=d+1:=by rw [yY];omega
 have nh:(eQ (bc po 1) x y).length=d+1:=by rw [yY];omega
 have mZ:(eQ (bc po 2) x y).length=d+1:=by rw [yY];omega
 have hn3:(eQ (aO po) x y).length=d+1:=by rw [yY];omega
 have hsy:=jm y x
 have n5:∀ l:List Rat,aN (l.map ah)=true:=fun l=>a7 ar l
 have akL:∀ q0 n9 sY q3':Rat,LV.pure (.agg [ah q0,ah n9,ah sY,ah q3'])=true:=fun _ _ _ _=>by simp [LV.pure,aN,ar.pure]
 have vm:=jm 1 x
 have hdv:=rG (y-x) (1-x)
 have aX:1-x≠0:=by grind
 have hP:∀ p:List Rat,p.length=d+1->(∀ z∈p,rl z<=100000)->ax al 94 [.list 3 (p.map ah),ah x,ah y] (.list 3 ((eQ p x y).map ah)):=fun p hp hz=>by
  have:=aD3 p x y ae ae (fun z hh=>a9 (hz z hh) ak) ae (fun _=>⟨auH ae (fun z hh=>a9 (hz z hh) ak) ae,auH (by rw [aan];omega) (fun z hh=>a9 (aDl ae hz ak wU z hh) ak) ae⟩) (fun e=>absurd e aX)
  rwa [arj] at this
 have hP0:=hP (bc po 0) ae (hN 0)
 have hP1:=hP (bc po 1) ae (hN 1)
 have hP2:=hP (bc po 2) ae (hN 2)
 have hP3:=hP (aO po) ae hW
 refine aS Tryz.func43 (ht:=(ki (by simp [LV.pure,aN,a7 ar,a7 bH]) rfl)) ?_
 have gL:True:=trivial
 have aw3:True:=trivial
 have arW:True:=trivial
 have iA:True:=trivial
 refine dG ?_
 refine cp au (hOx) ?_
 refine iI ?_
 refine cp au (hOy) ?_
 refine jw ?_
 refine ao (bg (v:=false) rfl rfl ((rfl)) rfl) (.move _) ?_
 refine ao (bg (v:=false) rfl rfl ((rfl)) rfl) (.not rfl) ?_
 refine ao rfl (.sv rfl ((rfl))) ?_
 refine av ?_
 refine ao (bg (v:=false) rfl rfl ((rfl)) rfl) iB ?_
 refine ao (bg (v:=false) rfl rfl ((rfl)) rfl) iB ?_
 refine iP (bg (v:=false) rfl rfl ((rfl)) rfl) (.cons fF (.cons fF .nil)) (nA lo hi ae) ?_
 refine ao (bg (v:=false) rfl rfl ((rfl)) rfl) (.bin rfl rfl rfl) ?_
 refine ao rfl (.sv rfl ((rfl))) ?_
 refine aP ?_
 refine aF rfl ?_ ?_<;>intro aKe h46
 ·first | exact hcm h46 | omega
 ·refine bD ?_
  refine cp aQ (ahH d (bq d a b) po R hR h) ?_
  refine aA ?_
  refine bN ?_
  refine aD ?_
  refine cr (b:=_) rfl ak ?_
  refine jw ?_
  refine cp gV (hP0) ?_
  refine bI ?_
  refine bN ?_
  refine aD ?_
  refine cr (b:=_) rfl ak ?_
  refine jw ?_
  refine cp gV (hP1) ?_
  refine bI ?_
  refine bN ?_
  refine aD ?_
  refine cr (b:=_) rfl ak ?_
  refine jw ?_
  refine cp gV (hP2) ?_
  refine bI ?_
  refine bN ?_
  refine aD ?_
  refine cr (b:=_) rfl ak ?_
  refine jw ?_
  refine cp gV (hP3) ?_
  refine bI ?_
  refine bN ?_
  refine aD ?_
  refine fi (b:=_) rfl ak ?_
  refine o4 ?_
  refine ao rfl cM ?_
  refine ao rfl (.bin rfl rfl (aAY ae)) ?_
  refine aA ?_
  refine kY ((az.cell 17 rfl (fun Z μ w cs h=>axU 83 3 _ _ Z μ w cs h)).trans (az.wG _ 83 3 rfl)) ?_
  refine dU (fun(m:Nat) L=>(((((((((St.mk L.slot (hp [(3,⟨3,[.agg [ai d,.list 3 ((bq d a b).map ah),.list 12 (po.map aW)]],true⟩),(4,⟨3,[ah lo],true⟩),(5,⟨3,[ah hi],true⟩),(6,⟨3,[.agg [.v (.int .i64 0),.v (.slice none 0 0),.v (.slice none 0 0)]],true⟩),(8,⟨3,[ah x],true⟩),(9,⟨3,[ah (b-a)],true⟩),(11,⟨3,[ah y],true⟩),(12,⟨3,[ah (b-a)],true⟩),(14,⟨4,[.agg [.list 3 ((eQ (bc po 0) x y).map ah),.list 3 ((eQ (bc po 1) x y).map ah),.list 3 ((eQ (bc po 2) x y).map ah),.list 3 ((eQ (aO po) x y).map ah)]],true⟩),(17,⟨3,[.agg [ai d,.ref 83 3 0 m,.v (.slice none 0 0)]],true⟩),(83,⟨3,((bq d lo hi).take m).map ah,true⟩)])).put (some 3) (.aB 3 3 0 0)).put (some 4) (.aB 4 3 0 0)).put (some 5) (.aB 5 3 0 0)).put (some 6) (.aB 6 3 0 0)).put (some 14) (.aB 14 4 0 0)).put (some 17) (.aB 17 3 0 0)).put (some 67) (ai (2*(d+1)))).put (some 68) (ai m))) (fun m=>m<=2*(d+1)) (fun m=>2*(d+1)-m) 0 (b8 _) ?_
  rintro m L2 hm
  refine aD ?_
  refine aF rfl ?_ ?_<;>intro ap7 h69
  ·have eO:m<2*(d+1):=by omega
   have kJ:((bq d lo hi).take m).length=m:=by rw [eG];omega
   have gL:(((bq d lo hi).take m).map ah).take m=((bq d lo hi).take m).map ah:=de ma
   refine ayO ?_
   refine aF rfl ?_ ?_<;>intro aKR h75
   ·have hmd:¬m<=d:=by omega
    have arW:=aDr (a:=lo) (b:=hi) eO hmd
    refine ba ?_
    refine a8 6 an ?_
    refine aA ?_
    first | refine cp au hAl ?_ | refine cp au hAh ?_
    refine av ?_
    first | refine bU rfl (.app (news:=[ah lo]) rfl rfl rfl rfl rfl ma (.inl rfl) ak dE dE lU cZ rfl mj (.inl ⟨82,0,_,rfl,by decide,rfl,rfl,by simp,rfl,by simp [aN,ar.pure]⟩) bw bw ak) ?_ | refine bU rfl (.app (news:=[ah hi]) rfl rfl rfl rfl rfl ma (.inl rfl) ak dE dE lU cZ rfl mj (.inl ⟨82,0,_,rfl,by decide,rfl,rfl,by simp,rfl,by simp [aN,ar.pure]⟩) bw bw ak) ?_
    refine ba ?_
    refine cy ((az.kill _ 19).trans (az.kill _ 82)) ?_
    refine ao rfl cM ?_
    refine aL ?_
    exact iD (m+1) ae
   ·have hmd:m<=d:=by omega
    have aw3:=aF9 (a:=lo) (b:=hi) eO hmd
    refine aP ?_
    refine a8 6 an ?_
    refine aA ?_
    first | refine cp au hAl ?_ | refine cp au hAh ?_
    refine av ?_
    first | refine bU rfl (.app (news:=[ah lo]) rfl rfl rfl rfl rfl ma (.inl rfl) ak dE dE lU cZ rfl mj (.inl ⟨82,0,_,rfl,by decide,rfl,rfl,by simp,rfl,by simp [aN,ar.pure]⟩) bw bw ak) ?_ | refine bU rfl (.app (news:=[ah hi]) rfl rfl rfl rfl rfl ma (.inl rfl) ak dE dE lU cZ rfl mj (.inl ⟨82,0,_,rfl,by decide,rfl,rfl,by simp,rfl,by simp [aN,ar.pure]⟩) bw bw ak) ?_
    refine ba ?_
    refine cy ((az.kill _ 19).trans (az.kill _ 82)) ?_
    refine ao rfl cM ?_
    refine aL ?_
    exact iD (m+1) ae
  ·obtain rfl:m=2*(d+1):=by omega
   have hEk:(bq d lo hi).take (2*(d+1))=(bq d lo hi):=de ae
   simp only [hEk]
   refine iI ?_
   refine kY ((az.cell 17 rfl (fun Z μ w cs h=>afX 117 12 _ _ Z μ w cs h)).trans (az.wG _ 117 12 rfl)) ?_
   refine dU (fun(j:Nat) L=>(((((((((St.mk L.slot (hp [(3,⟨3,[.agg [ai d,.list 3 ((bq d a b).map ah),.list 12 (po.map aW)]],true⟩),(4,⟨3,[ah lo],true⟩),(5,⟨3,[ah hi],true⟩),(6,⟨3,[.agg [.v (.int .i64 0),.v (.slice none 0 0),.v (.slice none 0 0)]],true⟩),(8,⟨3,[ah x],true⟩),(9,⟨3,[ah (b-a)],true⟩),(11,⟨3,[ah y],true⟩),(12,⟨3,[ah (b-a)],true⟩),(14,⟨4,[.agg [.list 3 ((eQ (bc po 0) x y).map ah),.list 3 ((eQ (bc po 1) x y).map ah),.list 3 ((eQ (bc po 2) x y).map ah),.list 3 ((eQ (aO po) x y).map ah)]],true⟩),(17,⟨3,[.agg [ai d,.ref 83 3 0 (2*(d+1)),.ref 117 12 0 j]],true⟩),(83,⟨3,(bq d lo hi).map ah,true⟩),(117,⟨12,((nd po x y).take j).map aW,true⟩)])).put (some 3) (.aB 3 3 0 0)).put (some 4) (.aB 4 3 0 0)).put (some 5) (.aB 5 3 0 0)).put (some 6) (.aB 6 3 0 0)).put (some 14) (.aB 14 4 0 0)).put (some 17) (.aB 17 3 0 0)).put (some 88) (ai (d+1))).put (some 89) (ai j))) (fun j=>j<=d+1) (fun j=>d+1-j) 0 (b8 _) ?_
   rintro j L3 hj
   refine aD ?_
   refine aF rfl ?_ ?_<;>intro aFp h90
   ·have jf:j<d+1:=by omega
    have hpj:=ajT h iU fN jO kD (j:=j) ae
    have kJ:((nd po x y).take j).length=j:=by rw [eG,tU];omega
    have gL:(((nd po x y).take j).map aW).take j=((nd po x y).take j).map aW:=de ma
    have iA:(nd po x y).take j++[cpQ po x y j]=(nd po x y).take (j+1):=by
     rw [<-amz (x:=x) (y:=y) (show j<po.length by omega),zb,bz,cq (by rw [tU];omega)];rfl
    have hcw:rl ((eQ (aO po) x y).getD j 0)<=500000000:=by
     rw [agV h fN ae]
     exact a9 (agL (R:=100000) wU hyr h6 ae fun i=>iG ak hW i) ak
    have aCz:rl ((eQ (bc po 0) x y).getD j 0)<=500000000:=by
     rw [afL h fN 0 ae]
     exact a9 (agL (R:=100000) wU hyr h6 ae fun i=>iG ak (hN 0) i) ak
    have aEd:rl ((eQ (bc po 1) x y).getD j 0)<=500000000:=by
     rw [afL h fN 1 ae]
     exact a9 (agL (R:=100000) wU hyr h6 ae fun i=>iG ak (hN 1) i) ak
    have aF3:rl ((eQ (bc po 2) x y).getD j 0)<=500000000:=by
     rw [afL h fN 2 ae]
     exact a9 (agL (R:=100000) wU hyr h6 ae fun i=>iG ak (hN 2) i) ak
    have hFP:ax al 96 [.agg [ah ((eQ (bc po 0) x y).getD j 0),ah ((eQ (bc po 1) x y).getD j 0),ah ((eQ (bc po 2) x y).getD j 0),ah ((eQ (aO po) x y).getD j 0)]] (aW (cpQ po x y j)):=ase _ _ _ _ 500000000 ak aCz aEd aF3 hcw hpj
    refine bI ?_
    refine a8 25 an ?_
    refine aa2 ?_
    have aJN:=akL ((eQ (bc po 0) x y).getD j 0) ((eQ (bc po 1) x y).getD j 0) ((eQ (bc po 2) x y).getD j 0) ((eQ (aO po) x y).getD j 0)
    refine cp aQ (hFP) ?_
    refine av ?_
    refine bU rfl (.app (news:=[aW (cpQ po x y j)]) rfl rfl rfl rfl rfl ma (.inl rfl) ak vX vX Z42 tW cs B42 (.inl ⟨116,0,_,rfl,by decide,rfl,rfl,by simp,rfl,by simp [aN,bH.pure]⟩) bw bw ak) ?_
    refine ba ?_
    refine cy (az.kill _ 116) ?_
    refine ao rfl cM ?_
    refine aL ?_
    exact yC
   ·obtain rfl:j=d+1:=by omega
    have hEp:(nd po x y).take (d+1)=(nd po x y):=de (by rw [tU];omega)
    refine dG ?_
    simp only [hEp]
    exact vA [83,117] rfl rfl rfl cs (dS cs rfl) kt (.agg (.cons (.pure rfl) (.cons (fC (l:=bq d lo hi) ar rfl rfl ir.symm) (.cons (fC (l:=nd po x y) bH rfl rfl (by rw [tU];omega)) .nil)))) rfl (.pure rfl)
theorem aEu {P:Program} {L:St} {a:Nat} {T:TypeId} {b sz t:Nat} {x y x' y':LV} {m:Bool} {n:Nat} {ag:Bool} {blk:bh} (h:L.slot a=.aB b sz 0 0) (hb:L.heap b=some ⟨sz,[x],m⟩)
  (hx:x.aw=sz) (cj:x.at 0 n ag=some x) (hT:bC P T n ag) (hi:wF L.heap 0 x y) (h':L.slot t=x') (nw:wF L.heap 0 x' y') (gf:L.heap 0=some blk) (hm:blk.mt=true) (hp:aN blk.vals=true):yQ P [.cell a T,.tmp t] L (.bf [y,y']) blk :=
 ⟨[x,x'],[y,y'],L.heap,.cons ⟨b,sz,0,0,_,x,n,ag,h,hb,rfl,rfl,hx,cj,hT⟩ (.cons h' .nil),bW.le_refl _,.cons hi (.cons nw .nil),gf,hm,hp,rfl⟩
def bsj (f:Rat) (v:List Rat) (j:Nat):List Rat:=(cW v.length).map fun i=>if j<i then v.getD (i-1) 0+f*(v.getD i 0-v.getD (i-1) 0) else v.getD i 0
theorem agJ (f:Rat) (v:List Rat) (j:Nat):(bsj f v j).length=v.length:=by simp [bsj]
theorem am4 (f:Rat) (v:List Rat) (j i:Nat) (h:i<v.length):(bsj f v j).getD i 0=if j<i then v.getD (i-1) 0+f*(v.getD i 0-v.getD (i-1) 0) else v.getD i 0:=by
 unfold bsj
 rw [bz,iV,atK h]
 rfl
theorem aft {p q:List Rat} (h:p.length=q.length) (hg:∀ i,i<p.length->p.getD i 0=q.getD i 0):p=q:=by
 refine uJ h fun i h1 h2=>?_
 have:=hg i h1
 rwa [bz,bz,cq h1,cq h2] at this
def wj (F:Rat->Rat) (args v:List Rat):Nat->List Rat
 | 0=>v
 | r+1=>bsj (F (args.getD r 0)) (wj F args v r) r
theorem afn (F:Rat->Rat) (args v:List Rat):∀ r,(wj F args v r).length=v.length
 | 0=>rfl
 | r+1=>by rw [wj,agJ,afn F args v r]
def bfS (Q R:Nat):Nat->Nat
 | 0=>R
 | r+1=>3*bfS Q R r+Q+2
theorem asM {Q R:Nat} (hR:1<=R):∀ r,1<=bfS Q R r
 | 0=>hR
 | r+1=>by have:=asM (Q:=Q) hR r;unfold bfS;omega
theorem auI {Q R:Nat} (hR:1<=R):∀ {r s},r<=s->bfS Q R r<=bfS Q R s
 | r,0,h=>by
         obtain rfl:r=0:=by omega
         exact bp _
 | r,s+1,h=>by
  rcases gM s r with g | g
  ·obtain rfl:r=s+1:=by omega
   exact bp _
  ·have:=auI (Q:=Q) hR (r:=r) (s:=s) g
   show _<=3*bfS Q R s+Q+2
   omega
def blo (d:Nat) (a b:Rat) (v args:List Rat):Rat:=(wj (fun t=>(t-a)/(b-a)) args v d).getD d 0
theorem aCe (v:List Rat) (j i:Nat) (h:i<v.length) (hj:j<i):(bsj 0 v j).getD i 0=v.getD (i-1) 0:=by
 rw [am4 _ _ _ _ h,if_pos hj];grind
theorem aEw (v:List Rat) (j:Nat):bsj 1 v j=v:=aft (agJ _ _ _) fun i hi=>by
 rw [agJ] at hi
 rw [am4 _ _ _ _ hi];split<;>grind
theorem aoo {a b:Rat} {args v:List Rat} (n:Nat) (hA:∀ r,r<n->args.getD r 0=a):∀ r,r<=n->∀ i,i<v.length->r<=i->(wj (fun t=>(t-a)/(b-a)) args v r).getD i 0=v.getD (i-r) 0
 | 0,_,i,_,_=>rfl
 | r+1,h,i,hi,hr=>by
  have ih:=aoo (b:=b) (v:=v) n hA r ae (i-1) ae ae
  rw [wj,hA r ae,show (a-a)/(b-a)=0 by rw [Rat.sub_self,jo,Rat.zero_mul],aCe _ _ _ (by rw [afn];exact hi) ae,ih]
  congr 1;omega
theorem apS {a b:Rat} (cL:a≠b) {args v:List Rat} (n:Nat) (hB:∀ r,n<=r->r<args.length->args.getD r 0=b):∀ k,n+k<=args.length->wj (fun t=>(t-a)/(b-a)) args v (n+k)=wj (fun t=>(t-a)/(b-a)) args v n
 | 0,_=>rfl
 | k+1,h=>by
  have ih:=apS cL (v:=v) n hB k ae
  rw [<-Nat.add_assoc,wj,hB (n+k) ae ae,show (b-a)/(b-a)=1 by rw [jo];exact Rat.mul_inv_cancel _ cG,aEw,ih]
theorem ax3 {d j:Nat} {a b:Rat} (hj:j<=d):((bq d a b).drop (j+1)).take d=ay (d-j) a++ay j b:=by
 have hl:(((bq d a b).drop (j+1)).take d).length=d:=by rw [eG,kE,lj];omega
 refine aft (by rw [hl,k5,tf,tf];omega) fun i hi=>?_
 rw [hl] at hi
 rw [bz,List.getElem?_take_of_lt hi,List.getElem?_drop,<-bz,im _ _ _ _ ae]
 by_cases g:i<d-j
 ·rw [if_pos ae,x8 (by simpa using g),u5 g]
 ·rw [if_neg ae,yK bw,tf,u5 ae]
theorem aEE {d j:Nat} {a b:Rat} (cL:a<b) {v:List Rat} (hv:v.length=d+1) (hj:j<=d):blo d a b v (((bq d a b).drop (j+1)).take d)=v.getD j 0:=by
 rw [ax3 hj,blo]
 have yB:(ay (d-j) a++ay j b).length=d:=by simp;omega
 have h1:=apS (a:=a) (b:=b) cG (args:=ay (d-j) a++ay j b) (v:=v) (d-j) (fun r g1 g2=>by rw [yB] at g2;rw [yK (by simpa using g1),tf,u5 ae]) j (by rw [yB];omega)
 rw [show d-j+j=d by omega] at h1
 rw [h1,aoo (d-j) (fun r g=>by rw [x8 (by simpa using g),u5 g]) (d-j) (bp _) d ae ae]
 congr 1;omega
open am7 in
theorem aGt (p:List Rat) (hl:p.length<=1048576) (nM:∀ x∈p,rl x<=274877906944):o6 al 157 [.list 3 (p.map ah)] (.ref 1 3 0 p.length) [⟨3,p.map ah,true⟩]:=by
 refine fnO Tryz.func157 ?_
 have iA:True:=trivial
 have gL:True:=trivial
 refine bE ?_
 refine fG rfl rfl (.mw (n:=0) (m:=p.length) ml ml om om om) ?_
 refine bF ?_
 refine dU (fun(k:Nat) L=>(((((St.mk L.slot (hp [(8,⟨3,(p.take k).map ah,true⟩)])).put (some 3) (.ref 8 3 0 k)).put (some 9) (.list 3 (p.map ah))).put (some 10) (ai p.length)).put (some 11) (ai k))) (fun k=>k<=p.length) (fun k=>p.length-k) 0 (b8 _) ?_
 rintro k L1 hk
 refine aD ?_
 refine aF rfl ?_ ?_<;>intro ads h12
 ·have mJ:k<p.length:=by omega
  have hrk:=nM _ (dK mJ)
  have hA:=jz (p.getD k 0) 0 (by rw [show rl 0=1 from rfl];omega)
  rw [ks] at hA
  have iA:=abU (l:=p) mJ
  have gL:((p.take k).map ah).take k=(p.take k).map ah:=de z9
  refine iI ?_
  refine ao rfl qc ?_
  refine cp au (hA) ?_
  refine av ?_
  refine bU rfl avp ?_
  refine aA ?_
  refine cy ((az.kill _ 5).trans (az.kill _ 19)) ?_
  refine ao rfl cM ?_
  refine aL ?_
  exact iD (k+1) ae
 ·obtain rfl:k=p.length:=by omega
  have hE:p.take p.length=p:=nn
  refine bF ?_
  rw [hE]
  exact age rfl rfl (a7 ar _)
theorem aA3 (p:List Rat) (hl:p.length<=1048576) (nM:∀ x∈p,rl x<=274877906944):ax al 157 [.list 3 (p.map ah)] (.list 3 (p.map ah)):=amu (aGt p hl nM) (a7 ar _) aT
open gQ in
theorem aFx (a b t:Rat) (h:rl a+rl b+rl t<=100000) (cL:a<b):ax al 289 [ah a,ah b,ah t] (ah ((t-a)/(b-a))):=by
 have h1:=jm t a
 have h2:=jm b a
 have hQ:ax al 169 [ah (t-a),ah (b-a)] (.bf [ah ((t-a)/(b-a)),iL 0]):=by
  have:=wu (t-a) (b-a) ae
  rwa [if_neg cG] at this
 refine aS Tryz.func289 ?_
 refine bE ?_
 refine ie 11 [9] an ?_
 refine aP ?_
 refine cp au (rN t a ae) ?_
 refine aP ?_
 refine cp au (rN b a ae) ?_
 refine cp au (hQ) ?_
 refine iI ?_
 exact gr
namespace axd
theorem aM {p q:Prop} (k:q) (e:p=q:=by simp only [e1,e2,e3,e4,p1,p2,p3,q1,q2,q3,l1,t0,t1,r1,r2,r3,r4,Nat.zero_add,Nat.reduceMul,Nat.reduceAdd,b1,b2,b3,b4,b5,b6,i1,i2,i3,i4,i5,i6,Nat.reduceBEq,ir,cd,iC,ub,afy,List.length_map,cN,List.set_cons_zero,List.set_cons_succ,Nat.reduceEqDiff,reduceIte,if_true,if_false,eN,fb,aV bo,aV bH,aV ar,cY,et,LV.kill,b7];exact rfl):p:=e.mpr k
end axd
open axd in
theorem azx (d:Nat) (a b t:Rat) (hd:d<=6) (hT:rl a<=100) (hT1:rl b<=100) (ht:rl t<=1000) (h1:a<=t) (h2:t<b):ax al 242 [.list 3 ((bq d a b).map ah),ai d,ah t] (.bf [ai d,iL 0]):=by
 have ir:=lj d a b
 have cd:=aaF d a b
 have iC:=abR d a b
 have c1:¬gj t a<0:=fun e=>by have:=vY.2 h1;omega
 have c2:¬gj t b > 0:=fun e=>by have:=u7.1 e;grind
 have ub:((2*(d+1):Nat):Int).toNat-1=2*(d+1)-1:=by omega
 have afy:(((2*(d+1):Nat):Int)-1).toNat=2*(d+1)-1:=by omega
 have c3:gj t b<0:=aer.2 h2
 refine aS aqZ (ht:=(ki rfl rfl)) ?_
 refine bE ?_
 refine a8 22 an ?_
 refine aA ?_
 refine ao (bg (v:=false) rfl rfl ((beq_eq_false_iff_ne.2 ae)) rfl) iB ?_
 refine ao (bg (v:=false) rfl rfl ((beq_eq_false_iff_ne.2 ae)) rfl) (.move _) ?_
 refine ao (bg (v:=false) rfl rfl ((beq_eq_false_iff_ne.2 ae)) rfl) xe ?_
 refine ao (bg (v:=false) rfl rfl ((beq_eq_false_iff_ne.2 ae)) rfl) iB ?_
 try simp only [t1,cN,cd]
 refine iP (bg (v:=false) rfl rfl ((beq_eq_false_iff_ne.2 ae)) rfl) (.cons fF (.cons fF .nil)) (nA t a ae) ?_
 refine ao (bg (v:=false) rfl rfl ((beq_eq_false_iff_ne.2 ae)) rfl) (.bin rfl rfl rfl) ?_
 refine ao rfl (.sv rfl ((beq_eq_false_iff_ne.2 ae))) ?_
 refine av ?_
 refine ao (bg (v:=false) rfl rfl ((decide_eq_false c1)) rfl) iB ?_
 refine ao (bg (v:=false) rfl rfl ((decide_eq_false c1)) rfl) (.move _) ?_
 refine ao (bg (v:=false) rfl rfl ((decide_eq_false c1)) rfl) (.move _) ?_
 refine ao (bg (v:=false) rfl rfl ((decide_eq_false c1)) rfl) xV ?_
 refine ao (bg (v:=false) rfl rfl ((decide_eq_false c1)) rfl) (.bin rfl rfl (afB ae ae)) ?_
 refine ao (bg (v:=false) rfl rfl ((decide_eq_false c1)) rfl) xe ?_
 refine ao (bg (v:=false) rfl rfl ((decide_eq_false c1)) rfl) iB ?_
 try simp only [t1,cN,ir,iC,afy]
 refine iP (bg (v:=false) rfl rfl ((decide_eq_false c1)) rfl) (.cons fF (.cons fF .nil)) (nA t b ae) ?_
 refine ao (bg (v:=false) rfl rfl ((decide_eq_false c1)) rfl) (.bin rfl rfl rfl) ?_
 refine ao rfl (.sv rfl ((decide_eq_false c1))) ?_
 refine aP ?_
 refine fi (b:=_) rfl (decide_eq_false c2) ?_
 refine dH ?_
 refine dU (fun(i:Nat) L=>(((((St.mk L.slot (hp [(5,⟨3,[ah t],true⟩)])).put (some 0) (.list 3 ((bq d a b).map ah))).put (some 5) (.aB 5 3 0 0)).put (some 8) (ai 0)).put (some 9) (ai i))) (fun i=>i<=d) (fun i=>d-i) 0 (b8 _) ?_
 rintro i L1 hi
 have hA:i<d->¬gj ((bq d a b).getD i 0) ((bq d a b).getD (i+1) 0)<0:=fun g=>by
  rw [im _ _ _ _ ae,im _ _ _ _ ae,if_pos ae,if_pos ae]
  exact fun e=>by have:=vY.2 (show a<=a by grind);omega
 have hB:i=d->gj ((bq d a b).getD i 0) ((bq d a b).getD (i+1) 0)<0:=fun g=>by
  rw [im _ _ _ _ ae,im _ _ _ _ ae,if_pos ae,if_neg ae]
  exact aer.2 cG
 have tv:=acX (d:=d) hT hT1
 have eW:=tv _ (dK (p:=bq d a b) (i:=i) ae)
 have py:=tv _ (dK (p:=bq d a b) (i:=i+1) ae)
 refine aA ?_
 refine ao rfl cM ?_
 refine ba ?_
 refine cr (b:=_) rfl (decide_eq_true (by first | omega | (simp only [fo,ir];omega))) ?_
 refine aD ?_
 refine a8 11 an ?_
 refine aD ?_
 refine ao rfl cM ?_
 refine aP ?_
 try simp only [t1,cN]
 refine cp au (nA ((bq d a b).getD i 0) ((bq d a b).getD (i+1) 0) ae) ?_
 refine aL ?_
 refine aF rfl ?_ ?_<;>intro acx h49
 ·have dR:i<d:=by
   rcases gM i d with g | g
   ·exact g
   ·have:=hB ae
    omega
  refine aD ?_
  refine ao rfl cM ?_
  refine aL ?_
  exact lR
 ·obtain rfl:i=d:=by
   rcases gM i d with g | g
   ·have:=hA g
    omega
   ·omega
  have aGK:(bq i a b).getD (i+1) 0=b:=by rw [im _ _ _ _ ae,if_neg ae]
  refine bE ?_
  refine a8 8 an ?_
  refine aL ?_
  refine ao rfl cM ?_
  refine aP ?_
  try simp only [t1,cN,aGK]
  refine cp au (nA t b ae) ?_
  refine aL ?_
  refine aF rfl ?_ ?_<;>intro awo h58
  ·refine dH ?_
   exact yg
  ·omega
structure Q4 where
 x:Rat
 y:Rat
 z:Rat
 w:Rat
instance:Inhabited Q4:=⟨⟨0,0,0,0⟩⟩
def dt (q:Q4):LV:=.agg [ah q.x,ah q.y,ah q.z,ah q.w]
theorem kI:iJ dt 12 true:=⟨fun q=>by simp [dt,LV.aw,cU,ar.aw],fun _=>rfl,fun q=>by simp [dt,LV.pure,aN,ar.pure]⟩
theorem adI (b:Nat) (q:Q4):(dt q).kill b=dt q:=LV.lV b _ (kI.pure q)
def qE (R:Nat) (q:Q4):Prop:=rl q.x<=R/\rl q.y<=R/\rl q.z<=R/\rl q.w<=R
def pol (d:Nat) (a b:Rat) (C:List Q4) (args:List Rat):Q4:=⟨blo d a b (C.map (·.x)) args,blo d a b (C.map (·.y)) args,blo d a b (C.map (·.z)) args,blo d a b (C.map (·.w)) args⟩
theorem aCI {C:List Q4} {i:Nat} (h:i<C.length):C.getD i default∈C:=by
 rw [bz,cq h];exact p6 h
theorem agN {C:List Q4} {i:Nat} (h:i<C.length) (f:Q4->Rat):(C.map f).getD i 0=f (C.getD i default):=by
 rw [bz,iV,bz,cq h];rfl
theorem ag4 {A B:List Rat} {i:Nat} (hl:A.length=B.length) (h:i<A.length):(A.take i++B.drop i).set i (A.getD i 0)=A.take (i+1)++B.drop (i+1):=by
 rw [List.set_append_right _ _ (by rw [eG];omega),eG,lL ae,pB,<-abU h,xh]
 congr 1
 rw [List.drop_eq_getElem_cons (by omega:i<B.length),List.set_cons_zero];rfl
theorem ail {A B:List Rat} {i:Nat} (hl:A.length=B.length) (h:i<=A.length):(A.take i++B.drop i).length=A.length:=by
 rw [k5,eG,kE];omega
theorem ah0 {A B:List Rat} {i:Nat} (hl:A.length=B.length) (h:A.length<=i):A.take i++B.drop i=A:=by
 rw [de h,jQ ae,mV]
theorem agR {P:Program} {dst:Option Tmp} {ty:TypeId} {pos:String} {af:Array Edge} {g:Option (Nat × Bool)} {rest:List Oper} {L:St} {K:St->Prop} {f:FuncId} {xs:Array Operand} {uC:Array TypeId} {args:List LV} {r:LV} {ops:Array Oper} (b:Nat) {blk blk':bh} (hg:dY ops L ⟨dst,.call ⟨.value (.func f),xs,uC⟩,ty,pos,af,g⟩ true)
  (hb:L.heap b=some blk) (hm:blk.mt=true) (hp:aN blk.vals=true) (ha:xq L.heap b (xs.toList.map L.ev) args) (hn:Names b (xs.toList.map L.ev)) (hk:nc P f blk args r blk')
  (pQ:blk'.mt=true) (kO:aN blk'.vals=true) (hr:∀ g,r.bV g=r) (k:opsL P false ops rest ((L.bO b (some blk')).put dst r) K) :
  opsL P false ops (⟨dst,.call ⟨.value (.func f),xs,uC⟩,ty,pos,af,g⟩ :: rest) L K :=
 xD b hg hb hm hp ha hn hk pQ kO (by rw [hr];exact k)
instance:EC al 159 dt 12 true ⟨0,0,0,0⟩:=⟨kI,aiW,aa8⟩
namespace ati
theorem aM {p q:Prop} (k:q) (e:p=q:=by simp only [e1,e2,e3,e4,p1,p2,p3,q1,q2,q3,l1,t0,t1,r1,r2,r3,r4,Nat.zero_add,Nat.reduceMul,Nat.reduceAdd,b1,b2,b3,b4,b5,b6,i1,i2,i3,i4,i5,i6,Nat.reduceBEq,cN,List.set_cons_zero,List.set_cons_succ,Nat.reduceEqDiff,reduceIte,if_true,if_false,eN,fb,aV bo,aV bH,aV ar,cY,et,LV.kill,b7,List.length_map];exact rfl):p:=e.mpr k
end ati
open ati in
theorem aiy (f:Nat) (cap:List LV) (gJ:aN cap=true) (hcs:∀ x∈cap,x.aw=1/\x.isAgg=false) (pr:Rat->Bool) (l:List Rat) (hl:l.length<=1048576) (hf:∀ x∈l,ax al f ([ah x]++cap) (bL (pr x))):ax al 161 [.list 3 (l.map ah),.dk f cap] (iL (acW pr l)):=by
 refine aS Tryz.func161 ?_
 refine dH ?_
 refine dU (fun(i:Nat) L=>((((((St.mk L.slot (hp [])).put (some 0) (.list 3 (l.map ah))).put (some 1) (.dk f cap)).put (some 6) (.list 3 (l.map ah))).put (some 7) (ai l.length)).put (some 8) (ai i))) (fun i=>i<=l.length/\∀ j,j<i->pr (l.getD j default)=false) (fun i=>l.length-i) 0 ⟨b8 _,fun j hj=>absurd hj (ahG j)⟩ ?_
 rintro i L1 ⟨hi,h0⟩
 refine aD ?_
 refine aF rfl ?_ ?_<;>intro wi h9
 ·have dR:i<l.length:=by omega
  have hc:=hf _ (dK dR)
  refine jw ?_
  refine nY [] rfl rfl (.dk (f:=f) (cap:=cap) (args:=[ah (l.getD i 0)]) rfl (.cons fF .nil) ⟨gJ,hcs⟩ hc.1 ak (fun _ h=>by cases h)) (hc.2 _) ?_
  refine aP ?_
  refine aF rfl ?_ ?_<;>intro abi yL
  ·have hV:acW pr l=(i:Int):=af8 dR h0 (by first | exact abi | exact yL)
   refine bF ?_
   rw [hV]
   exact nH
  ·have hn:∀ j,j<i+1->pr (l.getD j default)=false:=fun j hj=>by
    rcases alK.1 hj with e | rfl
    ·exact h0 j e
    ·first | exact abi | (simpa using yL)
   refine aA ?_
   refine ao rfl cM ?_
   refine aL ?_
   exact iD (i+1) ⟨ae,hn⟩
 ·obtain rfl:i=l.length:=by omega
  refine bD ?_
  rw [aH7 h0]
  exact nH
open gQ in
theorem arv (a x:Rat) (h:rl a+rl x<=100000):ax al 162 [ah x,.cm (ah a)] (bL (decide (gj x a > 0))):=by
 refine aS Tryz.func162 ?_
 refine bI ?_
 refine cp au (nA x a ae) ?_
 refine ba ?_
 exact nH
open gQ in
theorem asE (a x:Rat) (h:rl a+rl x<=100000):ax al 163 [ah x,.cm (ah a)] (bL (decide (gj x a>=0))):=by
 refine aS Tryz.func163 ?_
 refine bI ?_
 refine cp au (nA x a ae) ?_
 refine ba ?_
 exact nH
def qD (f:Nat->Rat) (v:List Rat) (j:Nat):List Rat:=(cW v.length).map fun i=>if j<i then v.getD (i-1) 0+f i*(v.getD i 0-v.getD (i-1) 0) else v.getD i 0
theorem uT (f:Nat->Rat) (v:List Rat) (j:Nat):(qD f v j).length=v.length:=by simp [qD]
theorem yA (f:Nat->Rat) (v:List Rat) (j i:Nat) (h:i<v.length):(qD f v j).getD i 0=if j<i then v.getD (i-1) 0+f i*(v.getD i 0-v.getD (i-1) 0) else v.getD i 0:=by
 unfold qD
 rw [bz,iV,atK h]
 rfl
theorem aC0 (f:Nat->Rat) (v:List Rat) (j:Nat) (h:v.length<=j+1):qD f v j=v :=
 aft (uT f v j) fun i hi=>by
  rw [uT] at hi
  rw [yA f v j i hi,if_neg ae]
theorem aCg (f:Nat->Rat) (v:List Rat) (j:Nat) (h0:0<j) (h:j<v.length):(qD f v j).set j (v.getD (j-1) 0+f j*(v.getD j 0-v.getD (j-1) 0))=qD f v (j-1) :=
 aft (by rw [aq4,uT,uT]) fun i hi=>by
  rw [aq4,uT] at hi
  rw [yA f v (j-1) i hi,bz,List.getElem?_set]
  by_cases e:j=i
  ·subst e
   rw [if_pos rfl,if_pos (by rw [uT];exact h),if_pos ae];rfl
  ·rw [if_neg e,<-bz,yA f v j i hi]
   by_cases g:j<i
   ·rw [if_pos g,if_pos ae]
   ·rw [if_neg g,if_neg ae]
def cK (F:Nat->Nat->Rat) (v:List Rat):Nat->List Rat
 | 0=>v
 | r+1=>qD (F r) (cK F v r) r
theorem xR (F:Nat->Nat->Rat) (v:List Rat):∀ r,(cK F v r).length=v.length
 | 0=>rfl
 | r+1=>by rw [cK,uT,xR F v r]
theorem aze {f:Nat->Rat} {v:List Rat} {Q R j:Nat} (hf:∀ i,j<i->i<v.length->rl (f i)<=Q) (hR:1<=R) (hv:∀ x∈v,rl x<=R):∀ x∈qD f v j,rl x<=3*R+Q+2:=fun x hx=>by
 obtain⟨i,hi,rfl⟩:=afD hx
 rw [uT] at hi
 rw [yA f v j i hi]
 have a:=iG hR hv i
 have b:=iG hR hv (i-1)
 split
 ·rename_i g
  have h0:=hf i g hi
  have h1:=jm (v.getD i 0) (v.getD (i-1) 0)
  have h2:=cX (f i) (v.getD i 0-v.getD (i-1) 0)
  have h3:=kC (v.getD (i-1) 0) (f i*(v.getD i 0-v.getD (i-1) 0))
  omega
 ·omega
theorem ax9 {F:Nat->Nat->Rat} {v:List Rat} {Q R n:Nat} (hQ:∀ r i,r<n->r<i->i<v.length->rl (F r i)<=Q) (hR:1<=R) (hv:∀ x∈v,rl x<=R):∀ r,r<=n->∀ x∈cK F v r,rl x<=bfS Q R r
 | 0,_=>hv
 | r+1,h=>aze (fun i h1 h2=>hQ r i ae h1 (by rwa [xR] at h2)) (asM hR r) (ax9 hQ hR hv r ae)
def gF (k:List Rat) (d pc:Nat) (args:List Rat) (r j:Nat):Rat:=(args.getD r 0-k.getD (pc-d+j) 0)/(k.getD (pc+j-r) 0-k.getD (pc-d+j) 0)
def cO (k:List Rat) (d pc:Nat) (v args:List Rat):Rat:=(cK (gF k d pc args) ((v.drop (pc-d)).take (d+1)) d).getD d 0
def nG (k:List Rat) (d pc:Nat) (C:List Q4) (args:List Rat):Q4:=⟨cO k d pc (C.map (·.x)) args,cO k d pc (C.map (·.y)) args,cO k d pc (C.map (·.z)) args,cO k d pc (C.map (·.w)) args⟩
structure wJ (k:List Rat) (d pc:Nat):Prop where
 d6:d<=6
 kl:k.length<=100
 kr:∀ x∈k,rl x<=100
 srt:∀ i j,i<=j->j<k.length->k.getD i 0<=k.getD j 0
 p1:d<=pc
 p2:pc+d+1<k.length
 lt:k.getD pc 0<k.getD (pc+1) 0
theorem wJ.fr {k:List Rat} {d pc:Nat} (h:wJ k d pc) {r j:Nat} (h1:r<j) (h2:j<=d):k.getD (pc-d+j) 0<k.getD (pc+j-r) 0:=by
 have a1:=h.p1
 have a2:=h.p2
 have b1:=h.srt (pc-d+j) pc ae ae
 have b2:=h.srt (pc+1) (pc+j-r) ae ae
 have b3:=h.lt
 grind
theorem wJ.kn {k:List Rat} {d pc:Nat} (h:wJ k d pc) {i:Nat} (hi:i<k.length):rl (k.getD i 0)<=100:=h.kr _ (dK hi)
theorem wJ.fl {k:List Rat} {d pc:Nat} (h:wJ k d pc) {args:List Rat} (hA:∀ t∈args,rl t<=100) {r j:Nat} (h1:r<j) (h2:j<=d) (h3:r<args.length):rl (gF k d pc args r j)<=402:=by
 have a1:=h.p1
 have a2:=h.p2
 have b1:=h.kn (i:=pc-d+j) ae
 have b2:=h.kn (i:=pc+j-r) ae
 have b3:=hA _ (dK h3)
 have c1:=jm (args.getD r 0) (k.getD (pc-d+j) 0)
 have c2:=jm (k.getD (pc+j-r) 0) (k.getD (pc-d+j) 0)
 have c3:=rG (args.getD r 0-k.getD (pc-d+j) 0) (k.getD (pc+j-r) 0-k.getD (pc-d+j) 0)
 unfold gF
 omega
namespace axg
theorem aM {p q:Prop} (k:q) (e:p=q:=by simp only [e1,e2,e3,e4,p1,p2,p3,q1,q2,q3,l1,t0,t1,r1,r2,r3,r4,Nat.zero_add,Nat.reduceMul,Nat.reduceAdd,b1,b2,b3,b4,b5,b6,i1,i2,i3,i4,i5,i6,Nat.reduceBEq,fy0,fyc,hnR,hnB,hnC,kh,cN,Rat.add_zero,List.length_map,List.set_cons_zero,List.set_cons_succ,Nat.reduceEqDiff,reduceIte,if_true,if_false,eN,fb,aV bo,aV bH,aV ar,cY,et,LV.kill,b7];exact rfl):p:=e.mpr k
end axg
open axg in
theorem aj9 (k:List Rat) (t:Rat) (i0:Nat) (h3:i0<k.length) (hl:k.length<=1000) (hr:∀ x∈k,rl x<=100000) (ht:rl t<=100000) (h1:∀ j,j<i0->k.getD j 0<=t) (h2:t<k.getD i0 0):ax al 159 [.list 3 (k.map ah),ah t] (.list 3 ((k.take i0++t :: k.drop i0).map ah)):=by
 have tX:=fh ar 3 k
 have hKc:=apH k ae (fun x hx=>a9 (hr x hx) ak)
 have hA:=jz t 0 (by rw [show rl 0=1 from rfl];omega)
 rw [ks] at hA
 have ke:aN [ah t]=true:=by simp [aN,ar.pure]
 have rS:aN (k.map ah)=true:=a7 ar _
 have hIn:=aFJ k i0 t h3 hl
 have kh:mD 27 28 1=1000449:=rfl
 have hnR:(LV.ref 1 3 0 (k.length+1)).bV (mD 27 28)=.ref 1000449 3 0 (k.length+1):=rfl
 have hnB:du (mD 27 28) [ah t]=[ah t]:=n7 _ _ ke
 have hnC:du (mD 27 28) ((k.take i0++t :: k.drop i0).map ah)=(k.take i0++t :: k.drop i0).map ah:=n7 _ _ (a7 ar _)
 have hlR:(k.take i0++t :: k.drop i0).length=k.length+1:=by rw [k5,qJ,eG,kE];omega
 have sg:∀ i,i<k.length->rl (k.getD i 0)<=100000:=fun i hi=>hr _ (dK hi)
 refine aS Tryz.func159 ?_
 refine dG ?_
 refine dU (fun(i:Nat) L=>((((St.mk L.slot (hp [(3,⟨3,[ah t],true⟩)])).put (some 0) (.list 3 (k.map ah))).put (some 3) (.aB 3 3 0 0)).put (some 5) (ai i))) (fun i=>i<=i0) (fun i=>i0-i) 0 (b8 _) ?_
 rintro i L1 hi
 refine aP ?_
 refine a8 13 an ?_
 refine ba ?_
 refine ao (bg (v:=true) rfl rfl ((decide_eq_true mq)) rfl) (.move _) ?_
 refine ao (bg (v:=true) rfl rfl ((decide_eq_true mq)) rfl) (.move _) ?_
 refine ao (bg (v:=true) rfl rfl ((decide_eq_true mq)) rfl) xe ?_
 refine ao (bg (v:=true) rfl rfl ((decide_eq_true mq)) rfl) iB ?_
 refine ao (bg (v:=true) rfl rfl ((decide_eq_true mq)) rfl) iB ?_
 try simp only [t1,cN]
 refine iP (bg (v:=true) rfl rfl ((decide_eq_true mq)) rfl) (.cons fF (.cons fF .nil)) (nA (k.getD i 0) t (by have:=sg i ae;omega)) ?_
 refine ao (bg (v:=true) rfl rfl ((decide_eq_true mq)) rfl) (.bin rfl rfl rfl) ?_
 refine ao rfl (.qh rfl ((decide_eq_true mq))) ?_
 refine aP ?_
 refine aF rfl ?_ ?_<;>intro uf ur
 ·have dR:i<i0:=by
   rcases gM i i0 with g | g
   ·exact g
   ·obtain rfl:i=i0:=by omega
    have:=u7.2 h2
    omega
  refine ba ?_
  refine ao rfl cM ?_
  refine aA ?_
  exact lR
 ·obtain rfl:i0=i:=by
   rcases gM i i0 with g | g
   ·have:=ae2.2 (h1 i g)
    omega
   ·omega
  refine aD ?_
  refine aDB rfl 7 an ak ?_
  simp only [xy,abG]
  refine av ?_
  refine aaV [] rfl rfl (.cons (.pure tX) .nil) hKc (a7 ar _) rfl ?_
  refine aP ?_
  refine ao rfl qc ?_
  refine cp au (hA) ?_
  refine av ?_
  try refine aM ?_
  refine aAK rfl (aq2 (f:=240) (b:=27) (c:=1000353) (sz:=3) (csz:=3) (vals:=[ah t]) (cvals:=k.map ah) 28 rfl ak ak (by rw [n7 _ _ ke];rfl) (by rw [n7 _ _ rS];rfl) (.cons (.bV (y:=.ref 1 3 0 k.length) ⟨by simp,by simp⟩) (.cons (.cE (.pure rfl)) (.cons (.bV (y:=.ref 0 3 0 1) ⟨by simp,by simp⟩) .nil))) (.tl (.tl (.ref ak))) hIn aT (fun kk hkk=>aIa (by intro x hx;simp only [List.map_cons,List.map_nil,fu,jn,or_false] at hx;unfold ef;omega))) ?_
  simp only [tJ,kh,hnR,hnB,hnC]
  try refine aM ?_
  simp only [ai2,lQ]
  refine aA ?_
  exact ow [1000449] rfl rfl (fC (l:=(k.take i0++t :: k.drop i0)) ar rfl rfl hlR.symm)
namespace aw0
theorem aM {p q:Prop} (k:q) (e:p=q:=by simp only [e1,e2,e3,e4,p1,p2,p3,q1,q2,q3,l1,t0,t1,r1,r2,r3,r4,Nat.zero_add,Nat.reduceMul,Nat.reduceAdd,b1,b2,b3,b4,b5,b6,i1,i2,i3,i4,i5,i6,Nat.reduceBEq,afy,List.length_map,cN,List.set_cons_zero,List.set_cons_succ,Nat.reduceEqDiff,reduceIte,if_true,if_false,eN,fb,aV bo,aV bH,aV ar,cY,et,LV.kill,b7];exact rfl):p:=e.mpr k
end aw0
open aw0 in
theorem ao6 (d:Nat) (k:List Rat) (t:Rat) (r:Nat) (hl:k.length<=1000) (hr:∀ x∈k,rl x<=100000) (ht:rl t<=100000) (h0:k.getD 0 0<=t) (h1:t<=k.getD (k.length-1) 0) (eW:r+1<k.length) (py:k.getD r 0<k.getD (r+1) 0) (hA:∀ i,i<r->k.getD i 0<k.getD (i+1) 0->k.getD (i+1) 0<=t) (hB:t<k.getD (r+1) 0\/∀ i,r<i->i+1<k.length->¬k.getD i 0<k.getD (i+1) 0):ax al 242 [.list 3 (k.map ah),ai d,ah t] (.bf [ai r,iL 0]):=by
 have afy:((k.length:Int)-1).toNat=k.length-1:=by omega
 have sg:∀ i,i<k.length->rl (k.getD i 0)<=100000:=fun i hi=>hr _ (dK hi)
 have c1:¬gj t (k.getD 0 0)<0:=fun e=>by have:=vY.2 h0;omega
 have c2:¬gj t (k.getD (k.length-1) 0) > 0:=fun e=>by have:=u7.1 e;grind
 have tK:=sg 0 ae
 have hrN:=sg (k.length-1) ae
 refine aS aqZ (ht:=(ki rfl rfl)) ?_
 refine bE ?_
 refine a8 22 an ?_
 refine aA ?_
 refine ao (bg (v:=false) rfl rfl ((beq_eq_false_iff_ne.2 ae)) rfl) iB ?_
 refine ao (bg (v:=false) rfl rfl ((beq_eq_false_iff_ne.2 ae)) rfl) (.move _) ?_
 refine ao (bg (v:=false) rfl rfl ((beq_eq_false_iff_ne.2 ae)) rfl) xe ?_
 refine ao (bg (v:=false) rfl rfl ((beq_eq_false_iff_ne.2 ae)) rfl) iB ?_
 try simp only [t1,cN]
 refine iP (bg (v:=false) rfl rfl ((beq_eq_false_iff_ne.2 ae)) rfl) (.cons fF (.cons fF .nil)) (nA t (k.getD 0 0) ae) ?_
 refine ao (bg (v:=false) rfl rfl ((beq_eq_false_iff_ne.2 ae)) rfl) (.bin rfl rfl rfl) ?_
 refine ao rfl (.sv rfl ((beq_eq_false_iff_ne.2 ae))) ?_
 refine av ?_
 refine ao (bg (v:=false) rfl rfl ((decide_eq_false c1)) rfl) iB ?_
 refine ao (bg (v:=false) rfl rfl ((decide_eq_false c1)) rfl) (.move _) ?_
 refine ao (bg (v:=false) rfl rfl ((decide_eq_false c1)) rfl) (.move _) ?_
 refine ao (bg (v:=false) rfl rfl ((decide_eq_false c1)) rfl) xV ?_
 refine ao (bg (v:=false) rfl rfl ((decide_eq_false c1)) rfl) (.bin rfl rfl (afB ae ae)) ?_
 refine ao (bg (v:=false) rfl rfl ((decide_eq_false c1)) rfl) xe ?_
 refine ao (bg (v:=false) rfl rfl ((decide_eq_false c1)) rfl) iB ?_
 try simp only [t1,cN,afy]
 refine iP (bg (v:=false) rfl rfl ((decide_eq_false c1)) rfl) (.cons fF (.cons fF .nil)) (nA t (k.getD (k.length-1) 0) ae) ?_
 refine ao (bg (v:=false) rfl rfl ((decide_eq_false c1)) rfl) (.bin rfl rfl rfl) ?_
 refine ao rfl (.sv rfl ((decide_eq_false c1))) ?_
 refine aP ?_
 refine fi (b:=_) rfl (decide_eq_false c2) ?_
 refine dH ?_
 refine lG (fun(i la:Nat) L=>(((((St.mk L.slot (hp [(5,⟨3,[ah t],true⟩)])).put (some 0) (.list 3 (k.map ah))).put (some 5) (.aB 5 3 0 0)).put (some 8) (ai la)).put (some 9) (ai i))) (fun i la=>i<k.length/\(r<i->la=r/\k.getD (r+1) 0<=t)) (fun i la=>k.length-i) 0 0 ⟨ae,fun h=>absurd h (ahG _)⟩ ?_
 rintro i la L1 ⟨hi,fQ⟩
 refine aA ?_
 refine ao rfl cM ?_
 refine ba ?_
 refine aF rfl ?_ ?_<;>intro avv h36
 ·have dR:i+1<k.length:=by omega
  have nN:=sg i ae
  have hg2:=sg (i+1) dR
  refine aD ?_
  refine a8 11 an ?_
  refine aD ?_
  refine ao rfl cM ?_
  refine aP ?_
  try simp only [t1,cN]
  refine cp au (nA (k.getD i 0) (k.getD (i+1) 0) ae) ?_
  refine aL ?_
  refine aF rfl ?_ ?_<;>intro acx h49
  ·have mz:¬k.getD i 0<k.getD (i+1) 0:=fun e=>by have:=aer.2 e;omega
   have nh:r<i+1->la=r/\k.getD (r+1) 0<=t:=fun h=>by
    rcases alK.1 h with g | g
    ·exact fQ g
    ·exact absurd (g ▸ py) mz
   refine aD ?_
   refine ao rfl cM ?_
   refine aL ?_
   exact iW (i+1) la ⟨ae,nh⟩
  ·have bM:k.getD i 0<k.getD (i+1) 0:=adE.1 ae
   refine bE ?_
   refine a8 8 an ?_
   refine aL ?_
   refine ao rfl cM ?_
   refine aP ?_
   try simp only [t1,cN]
   refine cp au (nA t (k.getD (i+1) 0) ae) ?_
   refine aL ?_
   refine aF rfl ?_ ?_<;>intro awo h58
   ·obtain rfl:i=r:=by
     have hb:=adE.1 h58
     rcases Nat.lt_trichotomy i r with g | g | g
     ·have:=hA i g bM
      grind
     ·exact g
     ·rcases hB with e | e
      ·have:=(fQ g).2
       grind
      ·exact absurd bM (e i g dR)
    refine dH ?_
    exact yg
   ·have kj:k.getD (i+1) 0<=t:=vY.1 ae
    have mZ:r<i+1->i=r/\k.getD (r+1) 0<=t:=fun h=>by
     rcases alK.1 h with g | g
     ·exfalso
      rcases hB with e | e
      ·have:=(fQ g).2
       grind
      ·exact absurd bM (e i g dR)
     ·exact⟨g.symm,g ▸ kj⟩
    refine ba ?_
    refine ao rfl cM ?_
    refine aL ?_
    exact iW (i+1) i ⟨ae,mZ⟩
 ·obtain rfl:la=r:=(fQ ae).1
  refine dG ?_
  exact yg
namespace apG
theorem aM {p q:Prop} (k:q) (e:p=q:=by simp only [e1,e2,e3,e4,p1,p2,p3,q1,q2,q3,l1,t0,t1,r1,r2,r3,r4,Nat.zero_add,Nat.reduceMul,Nat.reduceAdd,b1,b2,b3,b4,b5,b6,i1,i2,i3,i4,i5,i6,Nat.reduceBEq,cN,List.length_map,List.set_cons_zero,List.set_cons_succ,Nat.reduceEqDiff,reduceIte,if_true,if_false,eN,fb,aV bo,aV bH,aV ar,cY,et,LV.kill,b7];exact rfl):p:=e.mpr k
end apG
open apG in
theorem anM (k:List Rat) (j r:Nat) (hl:k.length<=1000) (hr:∀ x∈k,rl x<=100000) (hj:j<=r) (eW:r+1<k.length) (py:k.getD r 0<k.getD (r+1) 0) (hA:∀ i,j<=i->i<r->¬k.getD i 0<k.getD (i+1) 0):ax al 241 [.list 3 (k.map ah),ai j] (ai r):=by
 have sg:∀ i,i<k.length->rl (k.getD i 0)<=100000:=fun i hi=>hr _ (dK hi)
 refine aS Tryz.func241 ?_
 refine aY ?_
 refine dU (fun(i:Nat) L=>(((St.mk L.slot (hp [])).put (some 0) (.list 3 (k.map ah))).put (some 1) (ai i))) (fun i=>j<=i/\i<=r) (fun i=>r-i) j ⟨bp _,hj⟩ ?_
 rintro i L1 ⟨kQ,hi⟩
 refine aP ?_
 refine a8 18 an ?_
 refine av ?_
 refine ao rfl cM ?_
 refine aA ?_
 refine ao (bg (v:=true) rfl rfl ((decide_eq_true mq)) rfl) (.move _) ?_
 refine ao (bg (v:=true) rfl rfl ((decide_eq_true mq)) rfl) (.move _) ?_
 refine ao (bg (v:=true) rfl rfl ((decide_eq_true mq)) rfl) xe ?_
 refine ao (bg (v:=true) rfl rfl ((decide_eq_true mq)) rfl) iB ?_
 refine ao (bg (v:=true) rfl rfl ((decide_eq_true mq)) rfl) (.move _) ?_
 refine ao (bg (v:=true) rfl rfl ((decide_eq_true mq)) rfl) (.move _) ?_
 refine ao (bg (v:=true) rfl rfl ((decide_eq_true mq)) rfl) (.bin rfl rfl (agf ae)) ?_
 refine ao (bg (v:=true) rfl rfl ((decide_eq_true mq)) rfl) xe ?_
 refine ao (bg (v:=true) rfl rfl ((decide_eq_true mq)) rfl) iB ?_
 try simp only [t1,cN]
 refine iP (bg (v:=true) rfl rfl ((decide_eq_true mq)) rfl) (.cons fF (.cons fF .nil)) (nA (k.getD i 0) (k.getD (i+1) 0) (by have:=sg i ae;have:=sg (i+1) ae;omega)) ?_
 refine ao (bg (v:=true) rfl rfl ((decide_eq_true mq)) rfl) (.bin rfl rfl rfl) ?_
 refine ao rfl (.qh rfl ((decide_eq_true mq))) ?_
 refine aP ?_
 refine aF rfl ?_ ?_<;>intro aeq h22
 ·have dR:i<r:=by
   rcases gM i r with g | g
   ·exact g
   ·obtain rfl:i=r:=by omega
    have:=adE.2 py
    omega
  refine ba ?_
  refine ao rfl cM ?_
  refine aA ?_
  exact iD (i+1) ⟨ae,ae⟩
 ·obtain rfl:i=r:=by
   rcases gM i r with g | g
   ·exact absurd (adE.1 ae) (hA i kQ g)
   ·omega
  refine bF ?_
  exact nH
namespace aoB
theorem aM {p q:Prop} (k:q) (e:p=q:=by simp only [e1,e2,e3,e4,p1,p2,p3,q1,q2,q3,l1,t0,t1,r1,r2,r3,r4,Nat.zero_add,Nat.reduceMul,Nat.reduceAdd,b1,b2,b3,b4,b5,b6,i1,i2,i3,i4,i5,i6,Nat.reduceBEq,avz,r7,qi,hxd,hxe,awV,yB,ewl,ewj,ewk,aqd,cN,Rat.add_zero,Nat.sub_self,List.drop_zero,List.take_zero,List.nil_append,List.length_map,List.length_replicate,List.append_nil,List.set_cons_zero,List.set_cons_succ,Nat.reduceEqDiff,reduceIte,if_true,if_false,eN,fb,aV bo,aV bH,aV ar,cY,et,LV.kill,b7];exact rfl):p:=e.mpr k
end aoB
open aoB in
theorem ajg (k:List Rat) (d pc:Nat) (c args:List Rat) (R:Nat) (h:wJ k d pc) (hc:c.length=k.length-d-1) (yB:args.length=d) (fB:1<=R) (hR:R<=10000000) (kN:∀ x∈c,rl x<=R) (hA:∀ t∈args,rl t<=100):nc al 280 ⟨3,c.map ah,true⟩ [.list 3 (k.map ah),ai d,.ref 0 3 0 c.length,ai pc,.list 3 (args.map ah)] (.bf [ah (cO k d pc c args),iL 0]) ⟨3,c.map ah,true⟩:=by
 have h9:=h.d6
 have ir:=h.kl
 have ke:=h.p1
 have rS:=h.p2
 have aJO:=h.lt
 have hs9:bfS 402 R 6<=10000000000:=by simp only [bfS];omega
 have r7:((c.drop (pc-d)).take (d+1)).length=d+1:=by rw [eG,kE];omega
 have hvR:∀ x∈((c.drop (pc-d)).take (d+1)),rl x<=R:=fun x hx=>kN x (vL (vM hx))
 have hFl:∀ r i,r<d->r<i->i<((c.drop (pc-d)).take (d+1)).length->rl ((gF k d pc args) r i)<=402:=fun r i g1 g2 g3=>h.fl hA g2 ae ae
 have hBR:∀ r,r<=d->∀ x∈(cK (gF k d pc args) ((c.drop (pc-d)).take (d+1)) r),rl x<=10000000000:=fun r hr x hx=>a9 (ax9 hFl fB hvR r hr x hx) (a9 (auI fB (show r<=6 by omega)) hs9)
 have hG:∀ i,i<k.length->rl (k.getD i 0)<=100:=fun i hi=>h.kn hi
 have c1:¬gj (k.getD pc 0) (k.getD (pc+1) 0)>=0:=fun e=>by have:=vY.1 e;grind
 have nN:=hG pc ae
 have hg2:=hG (pc+1) ae
 have hpa:=fh ar 3 args
 have tX:=fh ar 3 k
 have aKf:=iG ak (hBR d (bp _)) d
 have hAd:=jz ((cK (gF k d pc args) ((c.drop (pc-d)).take (d+1)) d).getD d 0) 0 (by have:rl 0=1:=rfl;omega)
 rw [ks] at hAd
 have w7:(((c.drop (pc-d)).take (d+1)).map ah).length=d+1:=by rw [fo,r7]
 have hxd:(ay (d+1) (ah 0)).drop (d+1)=[]:=jQ aT
 have hxe:((ay (d+1) (0:Rat)).map ah).drop (d+1)=[]:=jQ aT
 refine xn Tryz.func280 ?_
 have avz:True:=trivial
 have awV:True:=trivial
 have ewl:True:=trivial
 have ewj:True:=trivial
 have ewk:True:=trivial
 have aqd:True:=trivial
 refine dH ?_
 refine cp au (ajJ k d ae ae) ?_
 refine aP ?_
 refine ao (bg (v:=false) rfl rfl ((bne_eq_false_iff_eq.2 mq)) rfl) (.move _) ?_
 refine ao (bg (v:=false) rfl rfl ((bne_eq_false_iff_eq.2 mq)) rfl) xV ?_
 refine ao (bg (v:=false) rfl rfl ((bne_eq_false_iff_eq.2 mq)) rfl) (.move _) ?_
 refine ao (bg (v:=false) rfl rfl ((bne_eq_false_iff_eq.2 mq)) rfl) (.bin rfl rfl rfl) ?_
 refine ao rfl (.sv rfl ((bne_eq_false_iff_eq.2 mq))) ?_
 refine aL ?_
 refine fi (b:=_) rfl (bne_eq_false_iff_eq.2 (by first | omega | (simp only [fo,yB];omega))) ?_
 refine av ?_
 refine a8 23 an ?_
 refine aA ?_
 refine ao (bg (v:=false) rfl rfl ((decide_eq_false ae)) rfl) (.move _) ?_
 refine ao (bg (v:=false) rfl rfl ((decide_eq_false ae)) rfl) (.move _) ?_
 refine ao (bg (v:=false) rfl rfl ((decide_eq_false ae)) rfl) xV ?_
 refine ao (bg (v:=false) rfl rfl ((decide_eq_false ae)) rfl) (.bin rfl rfl rfl) ?_
 refine ao rfl (.sv rfl ((decide_eq_false ae))) ?_
 refine av ?_
 refine ao (bg (v:=false) rfl rfl ((decide_eq_false ae)) rfl) (.move _) ?_
 refine ao (bg (v:=false) rfl rfl ((decide_eq_false ae)) rfl) (.move _) ?_
 refine ao (bg (v:=false) rfl rfl ((decide_eq_false ae)) rfl) xe ?_
 refine ao (bg (v:=false) rfl rfl ((decide_eq_false ae)) rfl) iB ?_
 refine ao (bg (v:=false) rfl rfl ((decide_eq_false ae)) rfl) (.move _) ?_
 refine ao (bg (v:=false) rfl rfl ((decide_eq_false ae)) rfl) (.move _) ?_
 refine ao (bg (v:=false) rfl rfl ((decide_eq_false ae)) rfl) (.bin rfl rfl (agf ae)) ?_
 refine ao (bg (v:=false) rfl rfl ((decide_eq_false ae)) rfl) xe ?_
 refine ao (bg (v:=false) rfl rfl ((decide_eq_false ae)) rfl) iB ?_
 try simp only [t1,cN]
 refine iP (bg (v:=false) rfl rfl ((decide_eq_false ae)) rfl) (.cons fF (.cons fF .nil)) (nA (k.getD pc 0) (k.getD (pc+1) 0) ae) ?_
 refine ao (bg (v:=false) rfl rfl ((decide_eq_false ae)) rfl) (.bin rfl rfl rfl) ?_
 refine ao rfl (.sv rfl ((decide_eq_false ae))) ?_
 refine aL ?_
 refine fi (b:=_) rfl (decide_eq_false c1) ?_
 refine aD ?_
 refine ao rfl cM ?_
 refine fG rfl rfl (.mw (n:=d+1) (m:=d+1) ml ml om om om) ?_
 refine bE ?_
 refine ao rfl (.bin rfl rfl (aac (a:=pc) (b:=d) (c:=pc-d) ae ae)) ?_
 refine ao rfl (.wk (a:=pc-d) (h:=c.length) rfl dE cZ (fun y hy=>by cases hy;exact⟨_,rfl⟩) (fun h=>by cases h) (fun y hy=>by cases hy) (fun _=>rfl) om om om) ?_
 try refine aM ?_
 refine bU rfl (.ac3 (b:=58) (off:=0) (sz:=3) (n1:=d+1) (c:=0) (off2:=pc-d) (n2:=c.length-(pc-d)) (news:=(((c.drop (pc-d)).take (d+1)).map ah)) rfl rfl rfl rfl (b8 _) dE dE cZ rfl rfl rfl (by rw [w7];show _=min _ _;omega) (by rw [w7];omega) (by rw [w7,fo];omega) (by rw [w7,<-ael,<-xg])) ?_
 refine bD ?_
 refine dU (fun(r:Nat) L=>(((((((((St.mk L.slot (hp [(0,⟨3,c.map ah,true⟩),(10,⟨3,[ah 0],true⟩),(58,⟨3,(cK (gF k d pc args) ((c.drop (pc-d)).take (d+1)) r).map ah,true⟩)])).put (some 0) (.list 3 (k.map ah))).put (some 1) (ai d)).put (some 3) (ai pc)).put (some 10) (.aB 10 3 0 0)).put (some 12) (.ref 58 3 0 (d+1))).put (some 66) (.list 3 (args.map ah))).put (some 67) (ai d)).put (some 68) (ai r))) (fun r=>r<=d) (fun r=>d-r) 0 (b8 _) ?_
 rintro r L1 hr
 refine aD ?_
 refine aF rfl ?_ ?_<;>intro ap7 h69
 ·have py:r<d:=by omega
  have hrt:=hA _ (dK (p:=args) (i:=r) ae)
  have sJ:(cK (gF k d pc args) ((c.drop (pc-d)).take (d+1)) r).length=d+1:=by rw [xR,r7]
  have aqd:qD ((gF k d pc args) r) (cK (gF k d pc args) ((c.drop (pc-d)).take (d+1)) r) d=(cK (gF k d pc args) ((c.drop (pc-d)).take (d+1)) r):=aC0 _ _ _ ae
  refine aaA ?_
  refine dU (fun(j:Nat) L=>((((((((((((St.mk L.slot (hp [(0,⟨3,c.map ah,true⟩),(10,⟨3,[ah 0],true⟩),(58,⟨3,(qD ((gF k d pc args) r) (cK (gF k d pc args) ((c.drop (pc-d)).take (d+1)) r) j).map ah,true⟩),(14,⟨3,[ah (args.getD r 0)],true⟩)])).put (some 0) (.list 3 (k.map ah))).put (some 1) (ai d)).put (some 3) (ai pc)).put (some 10) (.aB 10 3 0 0)).put (some 12) (.ref 58 3 0 (d+1))).put (some 13) (ai r)).put (some 14) (.aB 14 3 0 0)).put (some 15) (ai j)).put (some 66) (.list 3 (args.map ah))).put (some 67) (ai d)).put (some 68) (ai r))) (fun j=>r<=j/\j<=d) (fun j=>j) d ⟨ae,bp _⟩ ?_
  rintro j L2 ⟨hj1,jf⟩
  refine bn ?_
  refine aF rfl ?_ ?_<;>intro aHT h76
  ·have hj3:r<j:=by omega
   have ewl:(qD ((gF k d pc args) r) (cK (gF k d pc args) ((c.drop (pc-d)).take (d+1)) r) j).length=d+1:=by rw [uT,sJ]
   have ewj:(qD ((gF k d pc args) r) (cK (gF k d pc args) ((c.drop (pc-d)).take (d+1)) r) j).getD j 0=(cK (gF k d pc args) ((c.drop (pc-d)).take (d+1)) r).getD j 0:=by rw [yA _ _ _ _ ae,if_neg ae]
   have ewk:(qD ((gF k d pc args) r) (cK (gF k d pc args) ((c.drop (pc-d)).take (d+1)) r) j).getD (j-1) 0=(cK (gF k d pc args) ((c.drop (pc-d)).take (d+1)) r).getD (j-1) 0:=by rw [yA _ _ _ _ ae,if_neg ae]
   have hv1:=iG ak (hBR r ae) j
   have hv2:=iG ak (hBR r ae) (j-1)
   have hfq:rl ((gF k d pc args) r j)<=402:=h.fl hA hj3 ae ae
   have ec:=jm ((cK (gF k d pc args) ((c.drop (pc-d)).take (d+1)) r).getD j 0) ((cK (gF k d pc args) ((c.drop (pc-d)).take (d+1)) r).getD (j-1) 0)
   have hmf:=cX ((gF k d pc args) r j) ((cK (gF k d pc args) ((c.drop (pc-d)).take (d+1)) r).getD j 0-(cK (gF k d pc args) ((c.drop (pc-d)).take (d+1)) r).getD (j-1) 0)
   have awV:=aCg ((gF k d pc args) r) (cK (gF k d pc args) ((c.drop (pc-d)).take (d+1)) r) j ae ae
   have uL:=hG (pc-d+j) ae
   have mJ:=hG (pc+j-r) ae
   have dO:ax al 289 [ah (k.getD (pc-d+j) 0),ah (k.getD (pc+j-r) 0),ah (args.getD r 0)] (ah ((gF k d pc args) r j)):=aFx _ _ _ ae (h.fr hj3 ae)
   refine bn ?_
   refine ao rfl (.bin rfl rfl (aac (a:=pc) (b:=d) (c:=pc-d) ae ae)) ?_
   refine av ?_
   refine ao rfl (.bin rfl rfl (wI (a:=pc-d) (b:=j) ae)) ?_
   refine aA ?_
   refine a8 15 an ?_
   refine aY ?_
   refine ao rfl (.bin rfl rfl (wI (a:=pc-d+j) (b:=d) ae)) ?_
   refine av ?_
   refine ao rfl (.bin rfl rfl (aac (a:=pc-d+j+d) (b:=r) (c:=pc+j-r) ae ae)) ?_
   refine aL ?_
   try simp only [t1,cN]
   refine cp gV (dO) ?_
   refine aA ?_
   refine a8 21 an ?_
   refine aA ?_
   refine ao rfl kL ?_
   refine bE ?_
   refine ao rfl kL ?_
   refine aP ?_
   refine aM ?_
   refine cp au (rN ((cK (gF k d pc args) ((c.drop (pc-d)).take (d+1)) r).getD j 0) ((cK (gF k d pc args) ((c.drop (pc-d)).take (d+1)) r).getD (j-1) 0) ae) ?_
   refine cp au (iz ((gF k d pc args) r j) ((cK (gF k d pc args) ((c.drop (pc-d)).take (d+1)) r).getD j 0-(cK (gF k d pc args) ((c.drop (pc-d)).take (d+1)) r).getD (j-1) 0) ae) ?_
   refine cp au (jz ((cK (gF k d pc args) ((c.drop (pc-d)).take (d+1)) r).getD (j-1) 0) ((gF k d pc args) r j*((cK (gF k d pc args) ((c.drop (pc-d)).take (d+1)) r).getD j 0-(cK (gF k d pc args) ((c.drop (pc-d)).take (d+1)) r).getD (j-1) 0)) ae) ?_
   refine ba ?_
   refine cy (az.kill _ 17) ?_
   refine av ?_
   refine ao rfl kL ?_
   refine aL ?_
   exact iD (j-1) ⟨ae,ae⟩
  ·obtain rfl:r=j:=by omega
   refine aD ?_
   refine cy (az.kill _ 14) ?_
   refine ao rfl cM ?_
   refine aL ?_
   exact iD (r+1) ae
 ·obtain rfl:d=r:=by omega
  have avz:(cK (gF k d pc args) ((c.drop (pc-d)).take (d+1)) d).length=d+1:=by rw [xR,r7]
  refine bD ?_
  refine aM ?_
  refine ao rfl qc ?_
  refine cp au (hAd) ?_
  refine ba ?_
  exact aEu rfl rfl (ar.aw _) (qm _) cZ (.cE (.pure (ar.pure _))) rfl (.cE (.pure rfl)) rfl rfl (a7 ar _)
namespace axG
theorem aM {p q:Prop} (k:q) (e:p=q:=by simp only [e1,e2,e3,e4,p1,p2,p3,q1,q2,q3,l1,t0,t1,r1,r2,r3,r4,Nat.zero_add,Nat.reduceMul,Nat.reduceAdd,b1,b2,b3,b4,b5,b6,i1,i2,i3,i4,i5,i6,Nat.reduceBEq,qi,dt,w6,ect,aao,zw,cN,List.drop_zero,List.take_zero,List.nil_append,List.length_map,List.length_replicate,adI,aV kI,List.set_cons_zero,List.set_cons_succ,Nat.reduceEqDiff,reduceIte,if_true,if_false,eN,fb,aV bo,aV bH,aV ar,cY,et,LV.kill,b7];exact rfl):p:=e.mpr k
end axG
open axG in
theorem aHx (k:List Rat) (d pc:Nat) (C:List Q4) (args:List Rat) (R:Nat) (h:wJ k d pc) (hC:C.length=k.length-d-1) (yB:args.length=d) (fB:1<=R) (hR:R<=10000000) (kN:∀ q∈C,qE R q) (hA:∀ t∈args,rl t<=100):ax al 243 [.agg [ai d,.list 3 (k.map ah),.list 12 (C.map dt)],ai pc,.list 3 (args.map ah)] (dt (nG k d pc C args)):=by
 have ke:=h.p1
 have rS:=h.p2
 have ir:=h.kl
 have hCp:0<C.length:=by omega
 have hC9:C.length<=100:=by omega
 have hpS:LV.pure (.agg [ai d,.list 3 (k.map ah),.list 12 (C.map dt)])=true:=by simp [LV.pure,aN,a7 ar,a7 kI]
 have tX:=fh ar 3 k
 have hpa:=fh ar 3 args
 have ic:∀ x∈(C.map (·.x)),rl x<=R:=fun x hx=>by
  obtain⟨q,hq,rfl⟩:=da.1 hx
  exact(kN q hq).1
 have aqV:=ajg k d pc (C.map (·.x)) args R h (by rw [fo,hC]) yB fB hR ic hA
 rw [show (C.map (·.x)).length=C.length from fo _] at aqV
 have jM:∀ x∈(C.map (·.y)),rl x<=R:=fun x hx=>by
  obtain⟨q,hq,rfl⟩:=da.1 hx
  exact(kN q hq).2.1
 have auY:=ajg k d pc (C.map (·.y)) args R h (by rw [fo,hC]) yB fB hR jM hA
 rw [show (C.map (·.y)).length=C.length from fo _] at auY
 have eO:∀ x∈(C.map (·.z)),rl x<=R:=fun x hx=>by
  obtain⟨q,hq,rfl⟩:=da.1 hx
  exact(kN q hq).2.2.1
 have akc:=ajg k d pc (C.map (·.z)) args R h (by rw [fo,hC]) yB fB hR eO hA
 rw [show (C.map (·.z)).length=C.length from fo _] at akc
 have p7:∀ x∈(C.map (·.w)),rl x<=R:=fun x hx=>by
  obtain⟨q,hq,rfl⟩:=da.1 hx
  exact(kN q hq).2.2.2
 have asy:=ajg k d pc (C.map (·.w)) args R h (by rw [fo,hC]) yB fB hR p7 hA
 rw [show (C.map (·.w)).length=C.length from fo _] at asy
 refine aS Tryz.func243 (ht:=(fun g=>LV.df g _ (kI.pure _))) ?_
 have w6:True:=trivial
 have ect:True:=trivial
 have aao:True:=trivial
 have zw:True:=trivial
 refine nZ ?_
 refine fG rfl rfl (.mw (n:=C.length) (m:=C.length) ml ml om om om) ?_
 refine bI ?_
 refine bN ?_
 refine aD ?_
 refine cr (b:=_) rfl ak ?_
 refine oz ?_
 refine dU (fun(i:Nat) L=>((((((((((((St.mk L.slot (hp [(3,⟨3,[.agg [ai d,.list 3 (k.map ah),.list 12 (C.map dt)]],true⟩),(6,⟨12,[.agg [ah 0,ah 0,ah 0,ah 0]],true⟩),(7,⟨12,[.agg [ah 0,ah 0,ah 0,ah 0]],true⟩),(15,⟨3,((C.map (·.x)).take i++(ay C.length (0:Rat)).drop i).map ah,true⟩)])).put (some 1) (ai pc)).put (some 2) (.list 3 (args.map ah))).put (some 3) (.aB 3 3 0 0)).put (some 6) (.aB 6 12 0 0)).put (some 7) (.aB 7 12 0 0)).put (some 8) (.ref 15 3 0 C.length)).put (some 9) (ai 0)).put (some 16) (ai 0)).put (some 20) (.list 12 (C.map dt))).put (some 21) (ai C.length)).put (some 22) (ai i))) (fun i=>i<=C.length) (fun i=>C.length-i) 0 (b8 _) ?_
 rintro i L2 hi
 refine aD ?_
 refine aF rfl ?_ ?_<;>intro td rD
 ·have dR:i<C.length:=by omega
  have zw:=agN (C:=C) (i:=i) ae (·.x)
  have ect:((C.map (·.x)).take i++(ay C.length (0:Rat)).drop i).set i ((C.getD i default).x)=(C.map (·.x)).take (i+1)++(ay C.length (0:Rat)).drop (i+1):=by
   rw [<-zw]
   exact ag4 aT bw
  have w6:((C.map (·.x)).take i++(ay C.length (0:Rat)).drop i).length=C.length:=by rw [ail aT bw];simp
  refine we ?_
  refine cy (az.kill _ 11) ?_
  refine ao rfl cM ?_
  refine aL ?_
  exact lR
 ·obtain rfl:i=C.length:=by omega
  have aao:(C.map (·.x)).take C.length++(ay C.length (0:Rat)).drop C.length=(C.map (·.x)):=ah0 aT aT
  try simp only [aao]
  refine dH ?_
  refine agR 15 rfl rfl rfl (a7 ar _) (.cons (.cE (.pure tX)) (.cons (.cE (.pure rfl)) (.cons .ref (.cons (.cE (.pure rfl)) (.cons (.cE (.pure hpa)) .nil))))) (.tl (.tl (.ref hCp))) aqV rfl (a7 ar _) (ki (ar.pure _) rfl) ?_
  refine dG ?_
  refine bN ?_
  refine aD ?_
  refine cr (b:=_) rfl ak ?_
  refine oz ?_
  refine dU (fun(i:Nat) L=>((((((((((((St.mk L.slot (hp [(3,⟨3,[.agg [ai d,.list 3 (k.map ah),.list 12 (C.map dt)]],true⟩),(6,⟨12,[.agg [ah 0,ah 0,ah 0,ah 0]],true⟩),(7,⟨12,[.agg [ah (cO k d pc (C.map (·.x)) args),ah 0,ah 0,ah 0]],true⟩),(15,⟨3,((C.map (·.y)).take i++(C.map (·.x)).drop i).map ah,true⟩)])).put (some 1) (ai pc)).put (some 2) (.list 3 (args.map ah))).put (some 3) (.aB 3 3 0 0)).put (some 6) (.aB 6 12 0 0)).put (some 7) (.aB 7 12 0 0)).put (some 8) (.ref 15 3 0 C.length)).put (some 9) (ai 1)).put (some 16) (ai 1)).put (some 20) (.list 12 (C.map dt))).put (some 21) (ai C.length)).put (some 22) (ai i))) (fun i=>i<=C.length) (fun i=>C.length-i) 0 (b8 _) ?_
  rintro i L2 hi
  refine aD ?_
  refine aF rfl ?_ ?_<;>intro td rD
  ·have dR:i<C.length:=by omega
   have zw:=agN (C:=C) (i:=i) ae (·.y)
   have ect:((C.map (·.y)).take i++(C.map (·.x)).drop i).set i ((C.getD i default).y)=(C.map (·.y)).take (i+1)++(C.map (·.x)).drop (i+1):=by
    rw [<-zw]
    exact ag4 aT bw
   have w6:((C.map (·.y)).take i++(C.map (·.x)).drop i).length=C.length:=by rw [ail aT bw];simp
   refine we ?_
   refine cy (az.kill _ 11) ?_
   refine ao rfl cM ?_
   refine aL ?_
   exact lR
  ·obtain rfl:i=C.length:=by omega
   have aao:(C.map (·.y)).take C.length++(C.map (·.x)).drop C.length=(C.map (·.y)):=ah0 aT aT
   try simp only [aao]
   refine dH ?_
   refine agR 15 rfl rfl rfl (a7 ar _) (.cons (.cE (.pure tX)) (.cons (.cE (.pure rfl)) (.cons .ref (.cons (.cE (.pure rfl)) (.cons (.cE (.pure hpa)) .nil))))) (.tl (.tl (.ref hCp))) auY rfl (a7 ar _) (ki (ar.pure _) rfl) ?_
   refine dG ?_
   refine bN ?_
   refine aD ?_
   refine cr (b:=_) rfl ak ?_
   refine oz ?_
   refine dU (fun(i:Nat) L=>((((((((((((St.mk L.slot (hp [(3,⟨3,[.agg [ai d,.list 3 (k.map ah),.list 12 (C.map dt)]],true⟩),(6,⟨12,[.agg [ah 0,ah 0,ah 0,ah 0]],true⟩),(7,⟨12,[.agg [ah (cO k d pc (C.map (·.x)) args),ah (cO k d pc (C.map (·.y)) args),ah 0,ah 0]],true⟩),(15,⟨3,((C.map (·.z)).take i++(C.map (·.y)).drop i).map ah,true⟩)])).put (some 1) (ai pc)).put (some 2) (.list 3 (args.map ah))).put (some 3) (.aB 3 3 0 0)).put (some 6) (.aB 6 12 0 0)).put (some 7) (.aB 7 12 0 0)).put (some 8) (.ref 15 3 0 C.length)).put (some 9) (ai 2)).put (some 16) (ai 2)).put (some 20) (.list 12 (C.map dt))).put (some 21) (ai C.length)).put (some 22) (ai i))) (fun i=>i<=C.length) (fun i=>C.length-i) 0 (b8 _) ?_
   rintro i L2 hi
   refine aD ?_
   refine aF rfl ?_ ?_<;>intro td rD
   ·have dR:i<C.length:=by omega
    have zw:=agN (C:=C) (i:=i) ae (·.z)
    have ect:((C.map (·.z)).take i++(C.map (·.y)).drop i).set i ((C.getD i default).z)=(C.map (·.z)).take (i+1)++(C.map (·.y)).drop (i+1):=by
     rw [<-zw]
     exact ag4 aT bw
    have w6:((C.map (·.z)).take i++(C.map (·.y)).drop i).length=C.length:=by rw [ail aT bw];simp
    refine we ?_
    refine cy (az.kill _ 11) ?_
    refine ao rfl cM ?_
    refine aL ?_
    exact lR
   ·obtain rfl:i=C.length:=by omega
    have aao:(C.map (·.z)).take C.length++(C.map (·.y)).drop C.length=(C.map (·.z)):=ah0 aT aT
    try simp only [aao]
    refine dH ?_
    refine agR 15 rfl rfl rfl (a7 ar _) (.cons (.cE (.pure tX)) (.cons (.cE (.pure rfl)) (.cons .ref (.cons (.cE (.pure rfl)) (.cons (.cE (.pure hpa)) .nil))))) (.tl (.tl (.ref hCp))) akc rfl (a7 ar _) (ki (ar.pure _) rfl) ?_
    refine dG ?_
    refine bN ?_
    refine aD ?_
    refine cr (b:=_) rfl ak ?_
    refine oz ?_
    refine dU (fun(i:Nat) L=>((((((((((((St.mk L.slot (hp [(3,⟨3,[.agg [ai d,.list 3 (k.map ah),.list 12 (C.map dt)]],true⟩),(6,⟨12,[.agg [ah 0,ah 0,ah 0,ah 0]],true⟩),(7,⟨12,[.agg [ah (cO k d pc (C.map (·.x)) args),ah (cO k d pc (C.map (·.y)) args),ah (cO k d pc (C.map (·.z)) args),ah 0]],true⟩),(15,⟨3,((C.map (·.w)).take i++(C.map (·.z)).drop i).map ah,true⟩)])).put (some 1) (ai pc)).put (some 2) (.list 3 (args.map ah))).put (some 3) (.aB 3 3 0 0)).put (some 6) (.aB 6 12 0 0)).put (some 7) (.aB 7 12 0 0)).put (some 8) (.ref 15 3 0 C.length)).put (some 9) (ai 3)).put (some 16) (ai 3)).put (some 20) (.list 12 (C.map dt))).put (some 21) (ai C.length)).put (some 22) (ai i))) (fun i=>i<=C.length) (fun i=>C.length-i) 0 (b8 _) ?_
    rintro i L2 hi
    refine aD ?_
    refine aF rfl ?_ ?_<;>intro td rD
    ·have dR:i<C.length:=by omega
     have zw:=agN (C:=C) (i:=i) ae (·.w)
     have ect:((C.map (·.w)).take i++(C.map (·.z)).drop i).set i ((C.getD i default).w)=(C.map (·.w)).take (i+1)++(C.map (·.z)).drop (i+1):=by
      rw [<-zw]
      exact ag4 aT bw
     have w6:((C.map (·.w)).take i++(C.map (·.z)).drop i).length=C.length:=by rw [ail aT bw];simp
     refine we ?_
     refine cy (az.kill _ 11) ?_
     refine ao rfl cM ?_
     refine aL ?_
     exact lR
    ·obtain rfl:i=C.length:=by omega
     have aao:(C.map (·.w)).take C.length++(C.map (·.z)).drop C.length=(C.map (·.w)):=ah0 aT aT
     try simp only [aao]
     refine dH ?_
     refine agR 15 rfl rfl rfl (a7 ar _) (.cons (.cE (.pure tX)) (.cons (.cE (.pure rfl)) (.cons .ref (.cons (.cE (.pure rfl)) (.cons (.cE (.pure hpa)) .nil))))) (.tl (.tl (.ref hCp))) asy rfl (a7 ar _) (ki (ar.pure _) rfl) ?_
     refine dG ?_
     refine bN ?_
     refine aD ?_
     refine fi (b:=_) rfl ak ?_
     refine bF ?_
     exact ij [] rfl rfl rfl cs (dS cs rfl) aa8 (.pure (kI.pure (nG k d pc C args)))
theorem avJ {α:Type} (f:Nat->α) (j:Nat):(cW j).map f++[f j]=(cW (j+1)).map f:=by rw [List.range_succ,abB];rfl
namespace avo
theorem aM {p q:Prop} (k:q) (e:p=q:=by simp only [e1,e2,e3,e4,p1,p2,p3,q1,q2,q3,l1,t0,t1,r1,r2,r3,r4,Nat.zero_add,Nat.reduceMul,Nat.reduceAdd,b1,b2,b3,b4,b5,b6,i1,i2,i3,i4,i5,i6,Nat.reduceBEq,iA,gL,ejd,cN,List.length_map,List.length_range,mG,mB,jB,List.length_cons,List.length_nil,List.nil_append,List.map_nil,List.take_nil,List.append_nil,adI,aV kI,List.set_cons_zero,List.set_cons_succ,Nat.reduceEqDiff,reduceIte,if_true,if_false,eN,fb,aV bo,aV bH,aV ar,cY,et,LV.kill,b7];exact rfl):p:=e.mpr k
end avo
open avo in
theorem atG (k w:List Rat) (d N:Nat) (C:List Q4) (R:Nat) (I A:Nat->Nat) (hN0:0<N) (hw:w.length=N+d+1) (iZ:w.length<=100) (hwr:∀ x∈w,rl x<=100) (hC:C.length=k.length-d-1) (fB:1<=R) (hR:R<=10000000) (kN:∀ q∈C,qE R q) (hIl:∀ j,j<N->I j<w.length) (hG:∀ j,j<N->wJ k d (A j)) (hPc:∀ j,j<N->ax al 241 [.list 3 (w.map ah),ai j] (ai (I j))) (hIv:∀ j,j<N->ax al 242 [.list 3 (k.map ah),ai d,ah (w.getD (I j) 0)] (.bf [ai (A j),iL 0])):ax al 160 [.agg [ai d,.list 3 (k.map ah),.list 12 (C.map dt)],.list 3 (w.map ah)] (.agg [ai d,.list 3 (w.map ah),.list 12 (((cW N).map fun j=>nG k d (A j) C ((w.drop (j+1)).take d)).map dt)]):=by
 have hpS:LV.pure (.agg [ai d,.list 3 (k.map ah),.list 12 (C.map dt)])=true:=by simp [LV.pure,aN,a7 ar,a7 kI]
 have tX:=fh ar 3 w
 have hN9:N<=100:=by omega
 have hd9:d<=100:=by omega
 have hKP:=ajJ w d ae ae
 rw [show w.length-d-1=N by omega] at hKP
 refine aS Tryz.func160 (ht:=(fun g=>LV.df g _ (by simp [LV.pure,aN,a7 ar,a7 kI,-List.map_map]))) ?_
 have iA:True:=trivial
 have gL:True:=trivial
 have ejd:True:=trivial
 refine anY ?_
 refine cp au (hKP) ?_
 refine aA ?_
 refine kY ((az.cell 5 rfl (fun Z μ w cs h=>afX 51 12 _ _ Z μ w cs h)).trans (az.wG _ 51 12 rfl)) ?_
 refine dU (fun(j:Nat) L=>(((((((St.mk L.slot (hp [(2,⟨3,[.agg [ai d,.list 3 (k.map ah),.list 12 (C.map dt)]],true⟩),(4,⟨3,[.agg [.v (.int .i64 0),.v (.slice none 0 0),.v (.slice none 0 0)]],true⟩),(5,⟨3,[.agg [ai d,.list 3 (w.map ah),.ref 51 12 0 j]],true⟩),(51,⟨12,((cW j).map fun j=>nG k d (A j) C ((w.drop (j+1)).take d)).map dt,true⟩)])).put (some 1) (.list 3 (w.map ah))).put (some 2) (.aB 2 3 0 0)).put (some 4) (.aB 4 3 0 0)).put (some 5) (.aB 5 3 0 0)).put (some 17) (ai N)).put (some 18) (ai j))) (fun j=>j<=N) (fun j=>N-j) 0 (b8 _) ?_
 rintro j L1 hj
 refine aD ?_
 refine aF rfl ?_ ?_<;>intro agD h19
 ·have jf:j<N:=by omega
  have iA:((cW j).map fun j=>nG k d (A j) C ((w.drop (j+1)).take d))++[(nG k d (A j) C ((w.drop (j+1)).take d))]=((cW (j+1)).map fun j=>nG k d (A j) C ((w.drop (j+1)).take d)):=avJ (fun j=>(nG k d (A j) C ((w.drop (j+1)).take d))) j
  have gL:(((cW j).map fun j=>nG k d (A j) C ((w.drop (j+1)).take d)).map dt).take j=((cW j).map fun j=>nG k d (A j) C ((w.drop (j+1)).take d)).map dt:=de aT
  have ejd:(w.take (j+d+1)).drop (j+1)=(w.drop (j+1)).take d:=by
   rw [List.drop_take]
   congr 1
   omega
  have aIz:=hPc j jf
  have aHr:=hIv j jf
  have aJ3:=hIl j jf
  have hPo:=aHx k d (A j) C ((w.drop (j+1)).take d) R (hG j jf) hC (by rw [eG,kE];omega) fB hR kN (fun t ht=>hwr t (vL (vM ht)))
  refine dH ?_
  refine cp au (aIz) ?_
  refine aA ?_
  refine a8 14 an ?_
  refine bn ?_
  try simp only [t1,cN]
  refine cp gV (aHr) ?_
  refine aY ?_
  refine a8 15 an ?_
  refine aD ?_
  refine ao rfl cM ?_
  refine aL ?_
  refine ao rfl (.bin rfl rfl (wI (a:=j) (b:=d) ae)) ?_
  refine ao rfl cM ?_
  refine ao rfl (.amc (a:=j+1) (h:=j+d+1) ar rfl dE cZ rfl rfl om om) ?_
  refine aM ?_
  refine cp gV (hPo) ?_
  refine av ?_
  refine bU rfl (.iw (d:=51) (news:=[dt (nG k d (A j) C ((w.drop (j+1)).take d))]) rfl rfl rfl rfl aT (.inl rfl) ak zt zt aiW aa8 cs aye (.inl ⟨50,0,_,rfl,by decide,rfl,rfl,by simp,rfl,by simp [aN,kI.pure]⟩) bw bw ak) ?_
  refine ba ?_
  refine cy (az.kill _ 50) ?_
  refine ao rfl cM ?_
  refine aL ?_
  exact yC
 ·obtain rfl:j=N:=by omega
  refine bF ?_
  exact ij [51] rfl rfl rfl cs (dS cs rfl) agA (.agg (.cons (.pure rfl) (.cons (.pure tX) (.cons (fC (l:=((cW j).map fun j=>nG k d (A j) C ((w.drop (j+1)).take d))) kI rfl rfl aT) .nil))))
namespace at7
theorem aM {p q:Prop} (k:q) (e:p=q:=by simp only [e1,e2,e3,e4,p1,p2,p3,q1,q2,q3,l1,t0,t1,r1,r2,r3,r4,Nat.zero_add,Nat.reduceMul,Nat.reduceAdd,b1,b2,b3,b4,b5,b6,i1,i2,i3,i4,i5,i6,Nat.reduceBEq,hK0,hK1,hK2,ub,hiy,eal,ebl,eap,ebp,ajw,hmj,List.replicate_zero,Nat.add_zero,cN,List.getD_cons_zero,List.getD_cons_succ,List.length_map,List.length_replicate,mG,mB,jB,List.length_cons,List.length_nil,List.nil_append,List.map_nil,List.take_nil,List.append_nil,adI,aV kI,List.set_cons_zero,List.set_cons_succ,Nat.reduceEqDiff,reduceIte,if_true,if_false,eN,fb,aV bo,aV bH,aV ar,cY,et,LV.kill,b7];exact rfl):p:=e.mpr k
end at7
open at7 in
theorem ak9 (k w:List Rat) (d:Nat) (C C2:List Q4) (a b:Rat) (ea eb:Bool) (na nb:Nat) (KA KB:Nat->List Rat) (f1 l2:Nat) (hd:d<=6) (ha:rl a<=100) (hb:rl b<=100) (h1k:0<k.length) (ir:k.length<=100) (km:∀ x∈k,rl x<=100) (hK0:KA 0=k) (hK1:KA na=KB 0) (hK2:KB nb=w) (hBl:0<(KB 0).length) (akc:(KB 0).length<=100) (hBr:∀ x∈KB 0,rl x<=100) (iZ:w.length<=100) (hea:(decide (a=k.getD 0 0) || decide (a=k.getD (k.length-1) 0))=ea) (heb:(decide (b=(KB 0).getD 0 0) || decide (b=(KB 0).getD ((KB 0).length-1) 0))=eb) (hna:na<=d) (hnb:nb<=d) (yS:ea=true->na=0) (hzb:eb=true->nb=0) (hTA:ea=false->∀ n,n<=na->ax al 158 [.list 3 ((KA n).map ah),ah a] (ai (d-(na-n)))) (hTB:eb=false->∀ n,n<=nb->ax al 158 [.list 3 ((KB n).map ah),ah b] (ai (d-(nb-n)))) (hIA:∀ n,n<na->ax al 159 [.list 3 ((KA n).map ah),ah a] (.list 3 ((KA (n+1)).map ah))) (hIB:∀ n,n<nb->ax al 159 [.list 3 ((KB n).map ah),ah b] (.list 3 ((KB (n+1)).map ah))) (hO:ax al 160 [.agg [ai d,.list 3 (k.map ah),.list 12 (C.map dt)],.list 3 (w.map ah)] (.agg [ai d,.list 3 (w.map ah),.list 12 (C2.map dt)])) (sE:ax al 161 [.list 3 (w.map ah),.dk 162 [.cm (ah a)]] (ai f1)) (rL:ax al 161 [.list 3 (w.map ah),.dk 163 [.cm (ah b)]] (ai l2)) (hf1:d+1<=f1) (qV:f1<=l2) (ot:l2<=C2.length) (nj:C2.length<=w.length):ax al 86 [.agg [ai d,.list 3 (k.map ah),.list 12 (C.map dt)],ah a,ah b] (.agg [ai d,.list 3 ((ay (d+1) a++((w.take l2).drop f1)++ay (d+1) b).map ah),.list 12 (((C2.take l2).drop (f1-1-d)).map dt)]):=by
 have hpS:LV.pure (.agg [ai d,.list 3 (k.map ah),.list 12 (C.map dt)])=true:=by simp [LV.pure,aN,a7 ar,a7 kI]
 have hpw:=fh ar 3 w
 have ub:((k.length:Int)-1).toNat=k.length-1:=by omega
 have hiy:(((KB 0).length:Int)-1).toNat=(KB 0).length-1:=by omega
 have rY:=km _ (dK (p:=k) (i:=0) ae)
 have nN:=km _ (dK (p:=k) (i:=k.length-1) ae)
 have hg2:=hBr _ (dK (p:=KB 0) (i:=0) ae)
 have zc:=hBr _ (dK (p:=KB 0) (i:=(KB 0).length-1) ae)
 have hmj:(ay (d+1) a).map ah++((w.take l2).drop f1).map ah=(ay (d+1) a++((w.take l2).drop f1)).map ah:=abB.symm
 have ajw:((w.take l2).drop f1).length=l2-f1:=by rw [kE,eG];omega
 have aDT:=zM a (k.getD 0 0) ae
 have aEC:=zM a (k.getD (k.length-1) 0) ae
 have ay1:=zM b ((KB 0).getD 0 0) ae
 have aHY:=zM b ((KB 0).getD ((KB 0).length-1) 0) ae
 refine aS Tryz.func86 (ht:=(fun g=>LV.df g _ (by simp [LV.pure,aN,a7 ar,a7 kI,-abB,-ael,-xg]))) ?_
 have eal:True:=trivial
 have ebl:True:=trivial
 have eap:True:=trivial
 have ebp:True:=trivial
 refine we ?_
 refine bN ?_
 refine aD ?_
 refine cr (b:=_) rfl ak ?_
 refine bF ?_
 refine gY (fun L=>∃  (L1:St),(True)/\L=((((((((((St.mk L1.slot (hp [(3,⟨3,[.agg [ai d,.list 3 (k.map ah),.list 12 (C.map dt)]],true⟩),(4,⟨3,[ah a],true⟩),(5,⟨3,[ah b],true⟩),(6,⟨3,[.agg [.v (.int .i64 0),.v (.slice none 0 0),.v (.slice none 0 0)]],true⟩),(9,⟨3,[ah a],true⟩)])).put (some 3) (.aB 3 3 0 0)).put (some 4) (.aB 4 3 0 0)).put (some 5) (.aB 5 3 0 0)).put (some 6) (.aB 6 3 0 0)).put (some 7) (.list 3 (k.map ah))).put (some 9) (.aB 9 3 0 0)).put (some 10) (bL ea)).put (some 19) (.agg [ah a,ah b])).put (some 20) (ai 0))) ?_ ?_
 ·refine a8 16 an ?_
  refine aA ?_
  try refine aM ?_
  refine cp au (aDT) ?_
  refine av ?_
  refine dg 28 rfl ?_ ?_<;>intro y6 rI
  ·first | (have ng:bL ea=bL true:=by rw [<-hea,decide_eq_true rI,Bool.true_or]) | (have ng:bL eb=bL true:=by rw [<-heb,decide_eq_true rI,Bool.true_or])
   refine aY ?_
   try refine aM ?_
   refine ba ?_
   exact⟨_,trivial,((aj (aj (aj (aj (aj (aj (aj (aj (aj (bG cl) cl) cl) cl) cl) cl) cl) (by first | exact ng | exact ng.symm | (refine aM ?_;first | exact ng | exact ng.symm))) cl) cl)).symm⟩
  ·first | (have ng:bL ea=bL (decide (a=k.getD (k.length-1) 0)):=by rw [<-hea,decide_eq_false rI,Bool.false_or]) | (have ng:bL eb=bL (decide (b=(KB 0).getD ((KB 0).length-1) 0)):=by rw [<-heb,decide_eq_false rI,Bool.false_or])
   refine aA ?_
   refine ao (bg (v:=false) rfl rfl (y6) rfl) (.bin rfl rfl (afB ae ae)) ?_
   refine aP ?_
   try refine aM ?_
   refine cp au (aEC) ?_
   refine aA ?_
   exact⟨_,trivial,((aj (aj (aj (aj (aj (aj (aj (aj (aj (bG cl) cl) cl) cl) cl) cl) cl) (by first | exact ng | exact ng.symm | (refine aM ?_;first | exact ng | exact ng.symm))) cl) cl)).symm⟩
 ·rintro _ ⟨LR5,-,rfl⟩
  refine av ?_
  refine gY (fun L=>∃  (L1:St),(True)/\L=((((((((St.mk L1.slot (hp [(3,⟨3,[.agg [ai d,.list 3 (k.map ah),.list 12 (C.map dt)]],true⟩),(4,⟨3,[ah a],true⟩),(5,⟨3,[ah b],true⟩),(6,⟨3,[.agg [.v (.int .i64 0),.v (.slice none 0 0),.v (.slice none 0 0)]],true⟩),(9,⟨3,[ah a],true⟩)])).put (some 3) (.aB 3 3 0 0)).put (some 4) (.aB 4 3 0 0)).put (some 5) (.aB 5 3 0 0)).put (some 6) (.aB 6 3 0 0)).put (some 7) (.list 3 ((KB 0).map ah))).put (some 19) (.agg [ah a,ah b])).put (some 20) (ai 0))) ?_ ?_
  ·refine av ?_
   refine dU (fun(n:Nat) L=>((((((((((St.mk L.slot (hp [(3,⟨3,[.agg [ai d,.list 3 (k.map ah),.list 12 (C.map dt)]],true⟩),(4,⟨3,[ah a],true⟩),(5,⟨3,[ah b],true⟩),(6,⟨3,[.agg [.v (.int .i64 0),.v (.slice none 0 0),.v (.slice none 0 0)]],true⟩),(9,⟨3,[ah a],true⟩)])).put (some 3) (.aB 3 3 0 0)).put (some 4) (.aB 4 3 0 0)).put (some 5) (.aB 5 3 0 0)).put (some 6) (.aB 6 3 0 0)).put (some 7) (.list 3 ((KA n).map ah))).put (some 9) (.aB 9 3 0 0)).put (some 10) (bL ea)).put (some 19) (.agg [ah a,ah b])).put (some 20) (ai 0))) (fun n=>n<=na) (fun n=>na-n) 0 (b8 _) ?_
   rintro n L2 hn
   refine aP ?_
   refine a8 10 an ?_
   refine aL ?_
   refine dg 40 rfl ?_ ?_<;>intro al2 wC
   ·refine aP ?_
    refine cp au (hTA (by simpa using wC) n hn) ?_
    refine aD ?_
    refine aF rfl ?_ ?_<;>intro afo h47
    ·have mZ:n<na:=by
      have h1:=wC
      rcases gM n na with g | g
      ·exact g
      ·exfalso;omega
     have oP:=hIA n mZ
     refine aD ?_
     refine cp au (oP) ?_
     refine aA ?_
     exact iD (n+1) ae
    ·obtain rfl:n=na:=by first | omega | (have:=yS (by simpa using wC);omega)
     refine ba ?_
     exact ahU
   ·obtain rfl:n=na:=by have:=yS wC;omega
    refine iI ?_
    exact ahU
  ·rintro _ ⟨LB2,-,rfl⟩
   refine aP ?_
   refine cy (az.kill _ 9) ?_
   refine aA ?_
   refine bN ?_
   refine aD ?_
   refine cr (b:=_) rfl ak ?_
   refine bF ?_
   refine gY (fun L=>∃  (L1:St),(True)/\L=((((((((((St.mk L1.slot (hp [(3,⟨3,[.agg [ai d,.list 3 (k.map ah),.list 12 (C.map dt)]],true⟩),(4,⟨3,[ah a],true⟩),(5,⟨3,[ah b],true⟩),(6,⟨3,[.agg [.v (.int .i64 0),.v (.slice none 0 0),.v (.slice none 0 0)]],true⟩),(9,⟨3,[ah b],true⟩)])).put (some 3) (.aB 3 3 0 0)).put (some 4) (.aB 4 3 0 0)).put (some 5) (.aB 5 3 0 0)).put (some 6) (.aB 6 3 0 0)).put (some 7) (.list 3 ((KB 0).map ah))).put (some 9) (.aB 9 3 0 0)).put (some 10) (bL eb)).put (some 19) (.agg [ah a,ah b])).put (some 20) (ai 1))) ?_ ?_
   ·refine a8 16 an ?_
    refine aA ?_
    try refine aM ?_
    refine cp au (ay1) ?_
    refine av ?_
    refine dg 28 rfl ?_ ?_<;>intro y6 rI
    ·first | (have ng:bL ea=bL true:=by rw [<-hea,decide_eq_true rI,Bool.true_or]) | (have ng:bL eb=bL true:=by rw [<-heb,decide_eq_true rI,Bool.true_or])
     refine aY ?_
     try refine aM ?_
     refine ba ?_
     exact⟨_,trivial,((aj (aj (aj (aj (aj (aj (aj (aj (aj (bG cl) cl) cl) cl) cl) cl) cl) (by first | exact ng | exact ng.symm | (refine aM ?_;first | exact ng | exact ng.symm))) cl) cl)).symm⟩
    ·first | (have ng:bL ea=bL (decide (a=k.getD (k.length-1) 0)):=by rw [<-hea,decide_eq_false rI,Bool.false_or]) | (have ng:bL eb=bL (decide (b=(KB 0).getD ((KB 0).length-1) 0)):=by rw [<-heb,decide_eq_false rI,Bool.false_or])
     refine aA ?_
     refine ao (bg (v:=false) rfl rfl (y6) rfl) (.bin rfl rfl (afB ae ae)) ?_
     refine aP ?_
     try refine aM ?_
     refine cp au (aHY) ?_
     refine aA ?_
     exact⟨_,trivial,((aj (aj (aj (aj (aj (aj (aj (aj (aj (bG cl) cl) cl) cl) cl) cl) cl) (by first | exact ng | exact ng.symm | (refine aM ?_;first | exact ng | exact ng.symm))) cl) cl)).symm⟩
   ·rintro _ ⟨LR5,-,rfl⟩
    refine av ?_
    refine gY (fun L=>∃  (L1:St),(True)/\L=((((((((St.mk L1.slot (hp [(3,⟨3,[.agg [ai d,.list 3 (k.map ah),.list 12 (C.map dt)]],true⟩),(4,⟨3,[ah a],true⟩),(5,⟨3,[ah b],true⟩),(6,⟨3,[.agg [.v (.int .i64 0),.v (.slice none 0 0),.v (.slice none 0 0)]],true⟩),(9,⟨3,[ah b],true⟩)])).put (some 3) (.aB 3 3 0 0)).put (some 4) (.aB 4 3 0 0)).put (some 5) (.aB 5 3 0 0)).put (some 6) (.aB 6 3 0 0)).put (some 7) (.list 3 (w.map ah))).put (some 19) (.agg [ah a,ah b])).put (some 20) (ai 1))) ?_ ?_
    ·refine av ?_
     refine dU (fun(n:Nat) L=>((((((((((St.mk L.slot (hp [(3,⟨3,[.agg [ai d,.list 3 (k.map ah),.list 12 (C.map dt)]],true⟩),(4,⟨3,[ah a],true⟩),(5,⟨3,[ah b],true⟩),(6,⟨3,[.agg [.v (.int .i64 0),.v (.slice none 0 0),.v (.slice none 0 0)]],true⟩),(9,⟨3,[ah b],true⟩)])).put (some 3) (.aB 3 3 0 0)).put (some 4) (.aB 4 3 0 0)).put (some 5) (.aB 5 3 0 0)).put (some 6) (.aB 6 3 0 0)).put (some 7) (.list 3 ((KB n).map ah))).put (some 9) (.aB 9 3 0 0)).put (some 10) (bL eb)).put (some 19) (.agg [ah a,ah b])).put (some 20) (ai 1))) (fun n=>n<=nb) (fun n=>nb-n) 0 (b8 _) ?_
     rintro n L2 hn
     refine aP ?_
     refine a8 10 an ?_
     refine aL ?_
     refine dg 40 rfl ?_ ?_<;>intro al2 wC
     ·refine aP ?_
      refine cp au (hTB (by simpa using wC) n hn) ?_
      refine aD ?_
      refine aF rfl ?_ ?_<;>intro afo h47
      ·have mZ:n<nb:=by
        have h1:=wC
        rcases gM n nb with g | g
        ·exact g
        ·exfalso;omega
       have oP:=hIB n mZ
       refine aD ?_
       refine cp au (oP) ?_
       refine aA ?_
       exact iD (n+1) ae
      ·obtain rfl:n=nb:=by first | omega | (have:=hzb (by simpa using wC);omega)
       refine ba ?_
       exact ahU
     ·obtain rfl:n=nb:=by have:=hzb wC;omega
      refine iI ?_
      exact ahU
    ·rintro _ ⟨LB2,-,rfl⟩
     refine aP ?_
     refine cy (az.kill _ 9) ?_
     refine aA ?_
     refine bN ?_
     refine aD ?_
     refine fi (b:=_) rfl ak ?_
     refine bE ?_
     refine cp au (hO) ?_
     refine oz ?_
     refine nY [4] rfl rfl (.mk (caps:=[.cm (ah a)]) (.cons (.aB rfl rfl rfl (ar.aw _) (qm _) (ar.pure _) rfl) .nil) (fun x hx=>by rw [iM.1 hx];exact⟨rfl,rfl⟩)) rfl ?_
     refine iP rfl (.cons (.pure hpw) (.cons (.pure (show LV.pure (.dk 162 [.cm (ah a)])=true by simp [LV.pure,aN,ar.pure])) .nil)) (sE) ?_
     refine ao rfl kL ?_
     refine aD ?_
     refine nY [5] rfl rfl (.mk (caps:=[.cm (ah b)]) (.cons (.aB rfl rfl rfl (ar.aw _) (qm _) (ar.pure _) rfl) .nil) (fun x hx=>by rw [iM.1 hx];exact⟨rfl,rfl⟩)) rfl ?_
     refine iP rfl (.cons (.pure hpw) (.cons (.pure (show LV.pure (.dk 163 [.cm (ah b)])=true by simp [LV.pure,aN,ar.pure])) .nil)) (rL) ?_
     refine bn ?_
     refine ao rfl cM ?_
     refine aA ?_
     refine kY ((az.cell 12 rfl (fun Z μ w cs h=>axU 74 3 _ _ Z μ w cs h)).trans (az.wG _ 74 3 rfl)) ?_
     refine dU (fun(m:Nat) L=>((((((((((((St.mk L.slot (hp [(3,⟨3,[.agg [ai d,.list 3 (k.map ah),.list 12 (C.map dt)]],true⟩),(4,⟨3,[ah a],false⟩),(5,⟨3,[ah b],false⟩),(6,⟨3,[.agg [.v (.int .i64 0),.v (.slice none 0 0),.v (.slice none 0 0)]],true⟩),(11,⟨3,[.agg [ai d,.list 3 (w.map ah),.list 12 (C2.map dt)]],true⟩),(12,⟨3,[.agg [ai d,.ref 74 3 0 m,.v (.slice none 0 0)]],true⟩),(74,⟨3,(ay m a).map ah,true⟩)])).put (some 3) (.aB 3 3 0 0)).put (some 4) (.aB 4 3 0 0)).put (some 5) (.aB 5 3 0 0)).put (some 6) (.aB 6 3 0 0)).put (some 7) (.list 3 (w.map ah))).put (some 11) (.aB 11 3 0 0)).put (some 12) (.aB 12 3 0 0)).put (some 13) (ai (f1-1))).put (some 14) (ai l2)).put (some 67) (ai (d+1))).put (some 68) (ai m))) (fun m=>m<=d+1) (fun m=>d+1-m) 0 (b8 _) ?_
     rintro m L3 hm
     refine aD ?_
     refine aF rfl ?_ ?_<;>intro ap7 h69
     ·have eO:m<d+1:=by omega
      have eal:(ay m a++[a])=ay (m+1) a:=by rw [agK]
      have eap:((ay m a).map ah).take m=(ay m a).map ah:=de aT
      refine bE ?_
      refine bU rfl (.iw (d:=74) (news:=[ah a]) rfl rfl rfl rfl xP (.inl rfl) ak dE dE lU cZ rfl mj (.inl ⟨73,0,_,rfl,by decide,rfl,rfl,by simp,rfl,by simp [aN,ar.pure]⟩) xP xP ak) ?_
      refine ba ?_
      refine cy (az.kill _ 73) ?_
      refine ao rfl cM ?_
      refine aL ?_
      exact iD (m+1) ae
     ·obtain rfl:m=d+1:=by omega
      have eal:True:=trivial
      have eap:((ay (d+1) a).map ah).take (d+1)=(ay (d+1) a).map ah:=de aT
      refine aD ?_
      refine a8 7 an ?_
      refine aA ?_
      refine ao rfl (.bin rfl rfl (show dL .add .i64 ((f1-1:Nat):Int) 1=some (.int .i64 ((f1:Nat):Int)) from (by rw [agf ae,Nat.sub_add_cancel ae]))) ?_
      refine av ?_
      refine ao rfl (.amc (a:=f1) (h:=l2) ar rfl dE cZ rfl rfl om om) ?_
      refine aM ?_
      refine bU rfl (.iw (d:=74) (news:=((w.take l2).drop f1).map ah) rfl rfl rfl rfl aT (.inl rfl) ak dE dE lU cZ rfl mj (.inr (.inl rfl)) xP xP ak) ?_
      refine bE ?_
      refine ao rfl cM ?_
      refine aA ?_
      refine dU (fun(m:Nat) L=>((((((((((((St.mk L.slot (hp [(3,⟨3,[.agg [ai d,.list 3 (k.map ah),.list 12 (C.map dt)]],true⟩),(4,⟨3,[ah a],false⟩),(5,⟨3,[ah b],false⟩),(6,⟨3,[.agg [.v (.int .i64 0),.v (.slice none 0 0),.v (.slice none 0 0)]],true⟩),(11,⟨3,[.agg [ai d,.list 3 (w.map ah),.list 12 (C2.map dt)]],true⟩),(12,⟨3,[.agg [ai d,.ref 74 3 0 (d+1+(l2-f1)+m),.v (.slice none 0 0)]],true⟩),(74,⟨3,(ay (d+1) a++((w.take l2).drop f1)++ay m b).map ah,true⟩)])).put (some 3) (.aB 3 3 0 0)).put (some 4) (.aB 4 3 0 0)).put (some 5) (.aB 5 3 0 0)).put (some 6) (.aB 6 3 0 0)).put (some 7) (.list 3 (w.map ah))).put (some 11) (.aB 11 3 0 0)).put (some 12) (.aB 12 3 0 0)).put (some 13) (ai (f1-1))).put (some 14) (ai l2)).put (some 88) (ai (d+1))).put (some 89) (ai m))) (fun m=>m<=d+1) (fun m=>d+1-m) 0 (b8 _) ?_
      rintro m L4 hm
      refine aD ?_
      refine aF rfl ?_ ?_<;>intro aFp h90
      ·have eO:m<d+1:=by omega
       have ebl:(ay (d+1) a++((w.take l2).drop f1)++ay m b)++[b]=ay (d+1) a++((w.take l2).drop f1)++ay (m+1) b:=by rw [xh _ (ay m b),<-agK]
       have ebp:((ay (d+1) a++((w.take l2).drop f1)++ay m b).map ah).take (d+1+(l2-f1)+m)=(ay (d+1) a++((w.take l2).drop f1)++ay m b).map ah:=de (by rw [fo,k5,k5,ajw];simp)
       refine bE ?_
       refine bU rfl (.iw (d:=74) (news:=[ah b]) rfl rfl rfl rfl xP (.inl rfl) ak dE dE lU cZ rfl mj (.inl ⟨94,0,_,rfl,by decide,rfl,rfl,by simp,rfl,by simp [aN,ar.pure]⟩) xP xP ak) ?_
       refine ba ?_
       refine cy (az.kill _ 94) ?_
       refine ao rfl cM ?_
       refine aL ?_
       exact iD (m+1) ae
      ·obtain rfl:m=d+1:=by omega
       refine bF ?_
       refine ao rfl (.bin rfl rfl (aac (a:=f1-1) (b:=d) (c:=f1-1-d) ae ae)) ?_
       refine av ?_
       refine ao rfl (.amc (a:=f1-1-d) (h:=l2) kI rfl zt aa8 rfl rfl om om) ?_
       refine bD ?_
       exact ij [74] rfl rfl rfl cs (dS cs rfl) agA (.agg (.cons (.pure rfl) (.cons (fC (l:=(ay (d+1) a++((w.take l2).drop f1)++ay (d+1) b)) ar rfl rfl (by rw [k5,k5,ajw];simp)) (.cons (.pure (fh kI 12 _)) .nil))))
theorem aru (k:List Rat) (t:Rat):∀ i,i<=k.length->gu k t i=(k.take i).count t
 | 0,_=>by simp [gu]
 | i+1,h=>by
  rw [gu,aru k t i ae,<-abU (show i<k.length by omega),List.count_append,List.count_singleton]
  congr 1
  by_cases e:k.getD i 0=t
  ·rw [if_pos e,if_pos (by simpa using e)]
  ·rw [if_neg e,if_neg (by simpa using e)]
theorem aov (k:List Rat) (t:Rat):gu k t k.length=k.count t:=by
 rw [aru k t _ (bp _),nn]
def kq (d:Nat) (x a b y:Rat) (m n:Nat):List Rat:=(ay (d+1) x++ay m a)++(ay n b++ay (d+1) y)
section
variable (d:Nat) (x a b y:Rat) (m n:Nat)
theorem pV:(kq d x a b y m n).length=2*(d+1)+m+n:=by simp [kq];omega
theorem aIF:kq d x a b y 0 0=bq d x y:=by simp [kq,bq]
theorem gS (i:Nat) (h:i<2*(d+1)+m+n):(kq d x a b y m n).getD i 0=if i<d+1 then x else if i<d+1+m then a else if i<d+1+m+n then b else y:=by
 have l1:(ay (d+1) x++ay m a).length=d+1+m:=by simp
 unfold kq
 by_cases h1:i<d+1
 ·rw [if_pos h1,x8 (by rw [l1];omega),x8 (by simpa using h1),u5 h1]
 ·rw [if_neg h1]
  by_cases h2:i<d+1+m
  ·rw [if_pos h2,x8 (by rw [l1];omega),yK bw,tf,u5 ae]
  ·rw [if_neg h2,yK (by rw [l1];omega),l1]
   by_cases h3:i<d+1+m+n
   ·rw [if_pos h3,x8 bw,u5 ae]
   ·rw [if_neg h3,yK bw,tf,u5 ae]
theorem aod:(kq d x a b y m 0).take (d+1+m)++a :: (kq d x a b y m 0).drop (d+1+m)=kq d x a b y (m+1) 0:=by
 have l1:(ay (d+1) x++ay m a).length=d+1+m:=by simp
 unfold kq
 rw [afO l1,acb l1,agK (n:=m)]
 simp
theorem aAr:(kq d x a b y m n).take (d+1+m+n)++b :: (kq d x a b y m n).drop (d+1+m+n)=kq d x a b y m (n+1):=by
 have e:kq d x a b y m n=((ay (d+1) x++ay m a)++ay n b)++ay (d+1) y:=by simp [kq]
 have l1:((ay (d+1) x++ay m a)++ay n b).length=d+1+m+n:=by simp;omega
 rw [e,afO l1,acb l1]
 unfold kq
 rw [agK (n:=n)]
 simp
theorem aaR {R:Nat} (h1:rl x<=R) (h2:rl a<=R) (h3:rl b<=R) (h4:rl y<=R):∀ t∈kq d x a b y m n,rl t<=R:=fun t ht=>by
 simp only [kq,oy,so] at ht
 rcases ht with(⟨_,rfl⟩ | ⟨_,rfl⟩) | ⟨_,rfl⟩ | ⟨_,rfl⟩<;>assumption
end
theorem ao1 {d:Nat} {x a b y:Rat} (m:Nat) (h1:x≠a) (h2:a≠y):gu (kq d x a b y m 0) a (kq d x a b y m 0).length=m:=by
 rw [aov]
 simp [kq,atU,h1,h2.symm]
theorem ayZ {d:Nat} {x a b y:Rat} (m n:Nat) (h1:x≠b) (h2:a≠b) (h3:b≠y):gu (kq d x a b y m n) b (kq d x a b y m n).length=n:=by
 rw [aov]
 simp [kq,atU,h1,h2,h3.symm]
theorem arD {d:Nat} {x a b y:Rat} {m n i:Nat} (hm:m=0/\a=x\/m=d) (hn:n=0/\b=y\/n=d) (hi:i<=d):((kq d x a b y m n).drop (m+i+1)).take d=ay (d-i) a++ay i b:=by
 have eL:(ay (d+1) x++ay m a).drop (m+1)=ay d a:=by
  rcases hm with⟨rfl,rfl⟩ | rfl
  ·simp
  ·rw [acb aT]
 have eR:(ay n b++ay (d+1) y).take i=ay i b:=by
  rcases hn with⟨rfl,rfl⟩ | rfl
  ·simp;omega
  ·rw [as6 (by simpa using hi)];simp;omega
 have e1:(kq d x a b y m n).drop (m+1)=ay d a++(ay n b++ay (d+1) y):=by
  unfold kq
  rw [akX bw,eL]
 rw [show m+i+1=(m+1)+i by omega,<-List.drop_drop,e1,akX (by simpa using hi),ayg,axP,de aT,tf,show d-(d-i)=i by omega,eR]
theorem ai5 {d:Nat} {x y:Rat} {v args:List Rat} (hv:v.length=d+1):cO (bq d x y) d d v args=blo d x y v args:=by
 have e0:(v.drop (d-d)).take (d+1)=v:=by rw [pB,lQ,de ae]
 have key:∀ r,r<=d->cK (gF (bq d x y) d d args) v r=wj (fun t=>(t-x)/(y-x)) args v r:=by
  intro r
  induction r with
  | zero=>exact fun _=>rfl
  | succ r ih =>
   intro hr
   rw [cK,wj,ih ae]
   refine aft (by rw [uT,agJ]) fun i hi=>?_
   rw [uT,afn,hv] at hi
   rw [yA _ _ _ _ (by rw [afn,hv];exact hi),am4 _ _ _ _ (by rw [afn,hv];exact hi)]
   by_cases g:r<i
   ·rw [if_pos g,if_pos g]
    have e:gF (bq d x y) d d args r i=(args.getD r 0-x)/(y-x):=by
     unfold gF
     rw [im _ _ _ _ ae,im _ _ _ _ ae,if_pos ae,if_neg ae]
    rw [e]
   ·rw [if_neg g,if_neg g]
 unfold cO blo
 rw [e0,key d (bp _)]
theorem aDD {d:Nat} {x y:Rat} {C:List Q4} {args:List Rat} (hC:C.length=d+1):nG (bq d x y) d d C args=pol d x y C args:=by
 unfold nG pol
 rw [ai5 (by simpa using hC),ai5 (by simpa using hC),ai5 (by simpa using hC),ai5 (by simpa using hC)]
def agp (d:Nat) (x y:Rat) (C:List Q4) (a b:Rat):List Q4:=(cW (d+1)).map fun i=>pol d x y C (ay (d-i) a++ay i b)
theorem aFq {d:Nat} {x y:Rat} (h6:d<=6) (wh:x<y) (hx:rl x<=100) (hy:rl y<=100):wJ (bq d x y) d d where
 d6:=h6
 kl:=by rw [lj];omega
 kr:=acX hx hy
 srt:=fun i j rM hj=>by
  rw [lj] at hj
  rw [im _ _ _ _ ae,im _ _ _ _ hj]
  split<;>split<;>first | grind | (exfalso;omega)
 p1:=bp _
 p2:=by rw [lj];omega
 lt:=by rw [im _ _ _ _ ae,im _ _ _ _ ae,if_pos ae,if_neg ae];exact wh
def eB (q:Q4):aK:=⟨⟨q.x/q.w,q.y/q.w,q.z/q.w⟩,q.w⟩
theorem aHX (d:Nat) (x y a b:Rat) (C:List Q4) (R:Nat) (h1:1<=d) (h6:d<=6) (hxa:x<=a) (cL:a<b) (lD:b<=y) (hx:rl x<=64) (hy:rl y<=64) (ha:rl a<=64) (hb:rl b<=64) (hC:C.length=d+1) (fB:1<=R) (hR:R<=10000000) (kN:∀ q∈C,qE R q) :
  ax al 86 [.agg [ai d,.list 3 ((bq d x y).map ah),.list 12 (C.map dt)],ah a,ah b] (.agg [ai d,.list 3 ((bq d a b).map ah),.list 12 ((agp d x y C a b).map dt)]):=by
 obtain⟨m,hm⟩:∃ m,(m=0/\a=x)\/(m=d/\a≠x):=by
  by_cases e:a=x
  ·exact⟨0,.inl ⟨rfl,e⟩⟩
  ·exact⟨d,.inr ⟨rfl,e⟩⟩
 obtain⟨n,hn⟩:∃ n,(n=0/\b=y)\/(n=d/\b≠y):=by
  by_cases e:b=y
  ·exact⟨0,.inl ⟨rfl,e⟩⟩
  ·exact⟨d,.inr ⟨rfl,e⟩⟩
 have hmd:m<=d:=by omega
 have hnd:n<=d:=by omega
 have hma:0<m->x<a:=fun h=>by
  rcases hm with e | e
  ·omega
  ·have:=e.2;grind
 have hnb:0<n->b<y:=fun h=>by
  rcases hn with e | e
  ·omega
  ·have:=e.2;grind
 have mR:∀ p q,∀ t∈kq d x a b y p q,rl t<=64:=fun p q=>aaR d x a b y p q hx ha hb hy
 have ig:=pV d x a b y m n
 have hTA:decide (a=x)=false->∀ j,j<=m->ax al 158 [.list 3 ((kq d x a b y j 0).map ah),ah a] (ai (d-(m-j))):=fun hh j hj=>by
  have aX:a≠x:=by simpa using hh
  have:=aie (kq d x a b y j 0) (by rw [pV];omega) (fun t ht=>a9 (mR j 0 t ht) ak) a ae
  rw [ao1 j (fun e=>aX e.symm) cG] at this
  rwa [show d-(m-j)=j by rcases hm with e | e;exact absurd e.2 aX;omega]
 have hTB:decide (b=y)=false->∀ j,j<=n->ax al 158 [.list 3 ((kq d x a b y m j).map ah),ah b] (ai (d-(n-j))):=fun hh j hj=>by
  have aX:b≠y:=by simpa using hh
  have:=aie (kq d x a b y m j) (by rw [pV];omega) (fun t ht=>a9 (mR m j t ht) ak) b ae
  rw [ayZ m j cG cG aX] at this
  rwa [show d-(n-j)=j by rcases hn with e | e;exact absurd e.2 aX;omega]
 have hIA:∀ j,j<m->ax al 159 [.list 3 ((kq d x a b y j 0).map ah),ah a] (.list 3 ((kq d x a b y (j+1) 0).map ah)):=fun j hj=>by
  have aJV:=hma ae
  have:=aj9 (kq d x a b y j 0) a (d+1+j) (by rw [pV];omega) (by rw [pV];omega) (fun t ht=>a9 (mR j 0 t ht) ak) ae (fun i hi=>by
   rw [gS _ _ _ _ _ _ _ _ ae]
   split
   ·exact hxa
   ·first | exact gg | (rw [if_pos hi];exact gg)) (by
   rw [gS _ _ _ _ _ _ _ _ ae,if_neg ae,if_neg ae,if_neg ae];grind)
  rwa [aod] at this
 have hIB:∀ j,j<n->ax al 159 [.list 3 ((kq d x a b y m j).map ah),ah b] (.list 3 ((kq d x a b y m (j+1)).map ah)):=fun j hj=>by
  have agz:=hnb ae
  have:=aj9 (kq d x a b y m j) b (d+1+m+j) (by rw [pV];omega) (by rw [pV];omega) (fun t ht=>a9 (mR m j t ht) ak) ae (fun i hi=>by
   rw [gS _ _ _ _ _ _ _ _ ae]
   split
   ·grind
   ·split
    ·grind
    ·first | exact gg | (rw [if_pos hi];exact gg)) (by
   rw [gS _ _ _ _ _ _ _ _ ae,if_neg ae,if_neg ae,if_neg ae];exact agz)
  rwa [aAr] at this
 have hI:∀ j,j<d+1+m+n->∃ r,j<=r/\r+1<2*(d+1)+m+n/\(kq d x a b y m n).getD r 0<(kq d x a b y m n).getD (r+1) 0/\(∀ i,j<=i->i<r->¬(kq d x a b y m n).getD i 0<(kq d x a b y m n).getD (i+1) 0)/\x<=(kq d x a b y m n).getD r 0/\(kq d x a b y m n).getD r 0<y:=fun j hj=>by
  by_cases c1:j<=d
  ·refine⟨d,c1,ae,?_,fun i h2 h3=>?_,?_,?_⟩
   ·rw [gS _ _ _ _ _ _ _ _ ae,gS _ _ _ _ _ _ _ _ ae,if_pos ae,if_neg ae]
    split
    ·exact hma ae
    ·split<;>grind
   ·rw [gS _ _ _ _ _ _ _ _ ae,gS _ _ _ _ _ _ _ _ ae,if_pos ae,if_pos ae];grind
   ·rw [gS _ _ _ _ _ _ _ _ ae,if_pos ae];exact gg
   ·rw [gS _ _ _ _ _ _ _ _ ae,if_pos ae];grind
  ·by_cases c2:j<=d+m
   ·refine⟨d+m,c2,ae,?_,fun i h2 h3=>?_,?_,?_⟩
    ·rw [gS _ _ _ _ _ _ _ _ ae,gS _ _ _ _ _ _ _ _ ae,if_neg ae,if_pos ae,if_neg ae,if_neg ae]
     split<;>grind
    ·rw [gS _ _ _ _ _ _ _ _ ae,gS _ _ _ _ _ _ _ _ ae,if_neg ae,if_pos ae,if_neg ae,if_pos ae];grind
    ·rw [gS _ _ _ _ _ _ _ _ ae,if_neg ae,if_pos ae];exact hxa
    ·rw [gS _ _ _ _ _ _ _ _ ae,if_neg ae,if_pos ae];grind
   ·have agz:=hnb ae
    refine⟨d+m+n,ae,ae,?_,fun i h2 h3=>?_,?_,?_⟩
    ·rw [gS _ _ _ _ _ _ _ _ ae,gS _ _ _ _ _ _ _ _ ae,if_neg ae,if_neg ae,if_pos ae,if_neg ae,if_neg ae,if_neg ae];exact agz
    ·rw [gS _ _ _ _ _ _ _ _ ae,gS _ _ _ _ _ _ _ _ ae,if_neg ae,if_neg ae,if_pos ae,if_neg ae,if_neg ae,if_pos ae];grind
    ·rw [gS _ _ _ _ _ _ _ _ ae,if_neg ae,if_neg ae,if_pos ae];grind
    ·rw [gS _ _ _ _ _ _ _ _ ae,if_neg ae,if_neg ae,if_pos ae];exact agz
 obtain⟨I,hI⟩:∃ I:Nat->Nat,∀ j,j<d+1+m+n->j<=I j/\I j+1<2*(d+1)+m+n/\(kq d x a b y m n).getD (I j) 0<(kq d x a b y m n).getD (I j+1) 0/\(∀ i,j<=i->i<I j->¬(kq d x a b y m n).getD i 0<(kq d x a b y m n).getD (i+1) 0)/\x<=(kq d x a b y m n).getD (I j) 0/\(kq d x a b y m n).getD (I j) 0<y :=
  ⟨fun j=>if h:j<d+1+m+n then(hI j h).choose else 0,fun j h=>by simp only [h,dif_pos];exact(hI j h).choose_spec⟩
 have hrW:∀ i,i<2*(d+1)+m+n->rl ((kq d x a b y m n).getD i 0)<=64:=fun i hi=>mR m n _ (dK (by rw [ig];exact hi))
 have hO:=atG (bq d x y) (kq d x a b y m n) d (d+1+m+n) C R I (fun _=>d) ae nX nX (fun t ht=>a9 (mR m n t ht) ak) (by rw [lj,hC];omega) fB hR kN (fun j hj=>by rw [ig];have:=(hI j hj).2.1;omega)
  (fun j hj=>aFq h6 cG ae ae)
  (fun j hj=>anM (kq d x a b y m n) j (I j) nX (fun t ht=>a9 (mR m n t ht) ak) (hI j hj).1 (by rw [ig];exact(hI j hj).2.1) (hI j hj).2.2.1 (hI j hj).2.2.2.1)
  (fun j hj=>azx d x y _ h6 ae ae (by have:=hrW (I j) (by have:=(hI j hj).2.1;omega);omega) (hI j hj).2.2.2.2.1 (hI j hj).2.2.2.2.2)
 have sE:ax al 161 [.list 3 ((kq d x a b y m n).map ah),.dk 162 [.cm (ah a)]] (ai (d+1+m)):=by
  have:=aiy 162 [.cm (ah a)] (by simp [aN,LV.pure,ar.pure]) (fun x hx=>by rw [iM.1 hx];exact⟨rfl,rfl⟩) (fun t=>decide (gj t a > 0)) (kq d x a b y m n) nX (fun t ht=>arv a t (by have:=mR m n t ht;omega))
  rwa [af8 (i:=d+1+m) nX (fun j hj=>by
   have e:(kq d x a b y m n).getD j default=(kq d x a b y m n).getD j 0:=rfl
   rw [e,gS _ _ _ _ _ _ _ _ ae]
   refine decide_eq_false fun hh=>?_
   have hh:=u7.1 hh
   split at hh
   ·grind
   ·first | grind | (rw [if_pos hj] at hh;grind)) (by
   have e:(kq d x a b y m n).getD (d+1+m) default=(kq d x a b y m n).getD (d+1+m) 0:=rfl
   rw [e,gS _ _ _ _ _ _ _ _ ae,if_neg ae,if_neg ae]
   refine decide_eq_true (u7.2 ?_)
   split<;>grind)] at this
 have rL:ax al 161 [.list 3 ((kq d x a b y m n).map ah),.dk 163 [.cm (ah b)]] (ai (d+1+m)):=by
  have:=aiy 163 [.cm (ah b)] (by simp [aN,LV.pure,ar.pure]) (fun x hx=>by rw [iM.1 hx];exact⟨rfl,rfl⟩) (fun t=>decide (gj t b>=0)) (kq d x a b y m n) nX (fun t ht=>asE b t (by have:=mR m n t ht;omega))
  rwa [af8 (i:=d+1+m) nX (fun j hj=>by
   have e:(kq d x a b y m n).getD j default=(kq d x a b y m n).getD j 0:=rfl
   rw [e,gS _ _ _ _ _ _ _ _ ae]
   refine decide_eq_false fun hh=>?_
   have hh:=vY.1 hh
   split at hh
   ·grind
   ·first | grind | (rw [if_pos hj] at hh;grind)) (by
   have e:(kq d x a b y m n).getD (d+1+m) default=(kq d x a b y m n).getD (d+1+m) 0:=rfl
   rw [e,gS _ _ _ _ _ _ _ _ ae,if_neg ae,if_neg ae]
   refine decide_eq_true (vY.2 ?_)
   split<;>grind)] at this
 have ot:=pV d x a b y m 0
 have rY:(kq d x a b y m 0).getD 0 0=x:=by rw [gS _ _ _ _ _ _ _ _ ae,if_pos ae]
 have nN:(kq d x a b y m 0).getD ((kq d x a b y m 0).length-1) 0=y:=by rw [ot,gS _ _ _ _ _ _ _ _ ae,if_neg ae,if_neg ae,if_neg ae]
 have main:=ak9 (bq d x y) (kq d x a b y m n) d C _ a b (decide (a=x)) (decide (b=y)) m n (fun j=>kq d x a b y j 0) (fun j=>kq d x a b y m j) (d+1+m) (d+1+m) h6 ae ae (by rw [lj];omega) (by rw [lj];omega) (fun t ht=>a9 (acX hx hy t ht) ak)
  (aIF d x a b y) rfl rfl (by show 0<(kq d x a b y m 0).length;rw [ot];omega) (by show (kq d x a b y m 0).length<=100;rw [ot];omega) (fun t ht=>a9 (mR m 0 t ht) ak) nX
  (by rw [aaF,lj,abR,decide_eq_false (show ¬a=y by grind),Bool.or_false]) (by show (decide (b=(kq d x a b y m 0).getD 0 0) || decide (b=(kq d x a b y m 0).getD ((kq d x a b y m 0).length-1) 0))=_;rw [rY,nN,decide_eq_false (show ¬b=x by grind),Bool.false_or]) hmd hnd
  (fun h=>by have:=of_decide_eq_true h;rcases hm with e | e<;>grind) (fun h=>by have:=of_decide_eq_true h;rcases hn with e | e<;>grind) hTA hTB hIA hIB hO sE rL ae (bp _) aT (by rw [ig];simp;omega)
 have e1:((kq d x a b y m n).take (d+1+m)).drop (d+1+m)=[]:=jQ (by rw [eG];exact amr _ _)
 have e2:((((cW (d+1+m+n)).map fun j=>nG (bq d x y) d ((fun _=>d) j) C (((kq d x a b y m n).drop (j+1)).take d)).take (d+1+m)).drop (d+1+m-1-d))=agp d x y C a b:=by
  unfold agp
  refine uJ (by first | (simp;done) | (simp;omega)) fun i h1 h2=>?_
  have hi:i<d+1:=by simpa using h2
  simp only [amw,am6,amZ,alw]
  rw [show d+1+m-1-d+i=m+i by omega,aDD hC,arD (by rcases hm with e | e;exact .inl e;exact .inr e.1) (by rcases hn with e | e;exact .inl e;exact .inr e.1) ae]
 rw [e1,e2,mV] at main
 exact main
def bR (d:Nat) (a t b:Rat):List Rat:=kq d a t t b 1 0
theorem pH (d:Nat) (a t b:Rat):(bR d a t b).length=2*d+3:=by rw [bR,pV];omega
theorem eH (d:Nat) (a t b:Rat) (i:Nat) (h:i<2*d+3):(bR d a t b).getD i 0=if i<d+1 then a else if i<d+2 then t else b:=by
 rw [bR,gS _ _ _ _ _ _ _ _ ae]
 by_cases h1:i<d+1
 ·rw [if_pos h1,if_pos h1]
 ·rw [if_neg h1,if_neg h1]
  by_cases h2:i<d+1+1
  ·rw [if_pos h2,if_pos ae]
  ·rw [if_neg h2]
theorem adz {d:Nat} {a t b:Rat} {R:Nat} (h1:rl a<=R) (h2:rl t<=R) (h3:rl b<=R):∀ x∈bR d a t b,rl x<=R:=aaR d a t t b 1 0 h1 h2 h2 h3
theorem aEm {d:Nat} {a t b:Rat} (h6:d<=6) (cj:a<t) (dp:t<b) (ha:rl a<=100) (ht:rl t<=100) (hb:rl b<=100) {p:Nat} (hp:p=d\/p=d+1) (jS:1<=d):wJ (bR d a t b) d p where
 d6:=h6
 kl:=by rw [pH];omega
 kr:=adz ha ht hb
 srt:=fun i j rM hj=>by
  rw [pH] at hj
  rw [eH _ _ _ _ _ ae,eH _ _ _ _ _ hj]
  by_cases i1:i<d+1<;>by_cases i2:i<d+2<;>by_cases j1:j<d+1<;>by_cases j2:j<d+2<;>simp only [i1,i2,j1,j2,if_true,if_false]<;>first | exact gg | grind | (exfalso;omega)
 p1:=by omega
 p2:=by rw [pH];omega
 lt:=by
  rcases hp with rfl | rfl
  ·rw [eH _ _ _ _ _ ae,eH _ _ _ _ _ ae,if_pos ae,if_neg ae,if_pos ae];exact cj
  ·rw [eH _ _ _ _ _ ae,eH _ _ _ _ _ ae,if_neg ae,if_pos ae,if_neg ae,if_neg ae];exact dp
def kR (d:Nat) (a t b:Rat) (C:List Q4):List Q4:=(cW (d+1)).map fun j=>nG (bR d a t b) d d C (ay (d-j) a++ay j t)
def kX (d:Nat) (a t b:Rat) (C:List Q4):List Q4:=(cW (d+1)).map fun i=>nG (bR d a t b) d (if i=0 then d else d+1) C (ay (d-i) t++ay i b)
theorem aGp {d:Nat} {a t b:Rat} {j:Nat} (hj:j<=d):((kq d a t t b d 0).drop (j+1)).take d=ay (d-j) a++ay j t:=by
 have e1:(kq d a t t b d 0).drop (j+1)=ay (d-j) a++(ay d t++ay (d+1) b):=by
  have:kq d a t t b d 0=ay (d+1) a++(ay d t++ay (d+1) b):=by simp [kq]
  rw [this,akX bw,ayg,show d+1-(j+1)=d-j by omega]
 rw [e1,axP,de aT,tf,show d-(d-j)=j by omega,as6 (by simpa using hj),List.take_replicate,lL hj]
theorem awF (d:Nat) (a t b:Rat) (C:List Q4) (R:Nat) (h1:1<=d) (h6:d<=6) (cj:a<t) (dp:t<b) (ha:rl a<=64) (ht:rl t<=64) (hb:rl b<=64) (hC:C.length=d+2) (fB:1<=R) (hR:R<=10000000) (kN:∀ q∈C,qE R q):ax al 160 [.agg [ai d,.list 3 ((bR d a t b).map ah),.list 12 (C.map dt)],.list 3 ((kq d a t t b d 0).map ah)] (.agg [ai d,.list 3 ((kq d a t t b d 0).map ah),.list 12 (((cW (2*d+1)).map fun j=>nG (bR d a t b) d ((fun j=>if j<=d then d else d+1) j) C (((kq d a t t b d 0).drop (j+1)).take d)).map dt)]):=by
 have ig:(kq d a t t b d 0).length=2*(d+1)+d+0:=pV d a t t b d 0
 have mR:∀ x∈(kq d a t t b d 0),rl x<=64:=aaR d a t t b d 0 ha ht ht hb
 have g:∀ i,i<2*(d+1)+d+0->(kq d a t t b d 0).getD i 0=if i<d+1 then a else if i<d+1+d then t else b:=fun i hi=>by
  rw [gS _ _ _ _ _ _ _ _ hi]
  split
  ·rfl
  ·split
   ·rfl
   ·rw [if_neg ae]
 refine atG (bR d a t b) (kq d a t t b d 0) d (2*d+1) C R (fun j=>if j<=d then d else 2*d) (fun j=>if j<=d then d else d+1) ae nX nX (fun x hx=>a9 (mR x hx) ak) (by rw [pH,hC];omega) fB hR kN (fun j hj=>by rw [ig];show (if j<=d then d else 2*d)<_;split<;>omega)
  (fun j hj=>aEm h6 cj dp ae ae ae (by show (if j<=d then d else d+1)=d\/_;split<;>simp) h1) (fun j hj=>?_) (fun j hj=>?_)
 ·by_cases c:j<=d
  ·rw [if_pos c]
   exact anM (kq d a t t b d 0) j d nX (fun x hx=>a9 (mR x hx) ak) c nX (by rw [g _ ae,g _ ae,if_pos ae,if_neg ae,if_pos ae];exact cj) (fun i q1 q2=>by rw [g _ ae,g _ ae,if_pos ae,if_pos ae];grind)
  ·rw [if_neg c]
   exact anM (kq d a t t b d 0) j (2*d) nX (fun x hx=>a9 (mR x hx) ak) ae nX (by rw [g _ ae,g _ ae,if_neg ae,if_pos ae,if_neg ae,if_neg ae];exact dp) (fun i q1 q2=>by rw [g _ ae,g _ ae,if_neg ae,if_pos ae,if_neg ae,if_pos ae];grind)
 ·have e0:(bR d a t b).getD 0 0=a:=by rw [eH _ _ _ _ _ ae,if_pos ae]
  have e1:(bR d a t b).getD ((bR d a t b).length-1) 0=b:=by rw [pH,eH _ _ _ _ _ ae,if_neg ae,if_neg ae]
  have rT:∀ x∈(bR d a t b),rl x<=64:=adz ha ht hb
  by_cases c:j<=d
  ·rw [if_pos c,if_pos c,g _ ae,if_pos ae]
   exact ao6 d (bR d a t b) a d (by rw [pH];omega) (fun x hx=>a9 (rT x hx) ak) ae (by rw [e0];exact gg) (by rw [e1];grind) (by rw [pH];omega) (by rw [eH _ _ _ _ _ ae,eH _ _ _ _ _ ae,if_pos ae,if_neg ae,if_pos ae];exact cj)
    (fun i q1 q2=>by rw [eH _ _ _ _ _ ae,if_pos ae];exact gg) (.inl (by rw [eH _ _ _ _ _ ae,if_neg ae,if_pos ae];exact cj))
  ·rw [if_neg c,if_neg c,g _ ae,if_neg ae,if_pos ae]
   exact ao6 d (bR d a t b) t (d+1) (by rw [pH];omega) (fun x hx=>a9 (rT x hx) ak) ae (by rw [e0];grind) (by rw [e1];grind) (by rw [pH];omega) (by rw [eH _ _ _ _ _ ae,eH _ _ _ _ _ ae,if_neg ae,if_pos ae,if_neg ae,if_neg ae];exact dp)
    (fun i q1 q2=>by
     rw [eH _ _ _ _ _ ae]
     split
     ·grind
     ·rw [if_pos ae];exact gg) (.inl (by rw [eH _ _ _ _ _ ae,if_neg ae,if_neg ae];exact dp))
theorem avW (d:Nat) (a t b:Rat) (C:List Q4) (R:Nat) (h1:1<=d) (h6:d<=6) (cj:a<t) (dp:t<b) (ha:rl a<=64) (ht:rl t<=64) (hb:rl b<=64) (hC:C.length=d+2) (fB:1<=R) (hR:R<=10000000) (kN:∀ q∈C,qE R q) (j:Nat) (hj:j<=d-1):ax al 158 [.list 3 ((kq d a t t b (1+j) 0).map ah),ah t] (ai (d-(d-1-j))):=by
 have:=aie (kq d a t t b (1+j) 0) (by rw [pV];omega) (fun x hx=>a9 (aaR d a t t b (1+j) 0 ha ht ht hb x hx) ak) t ae
 rw [ao1 (1+j) cG cG] at this
 rwa [show d-(d-1-j)=1+j by omega]
theorem aui (d:Nat) (a t b:Rat) (C:List Q4) (R:Nat) (h1:1<=d) (h6:d<=6) (cj:a<t) (dp:t<b) (ha:rl a<=64) (ht:rl t<=64) (hb:rl b<=64) (hC:C.length=d+2) (fB:1<=R) (hR:R<=10000000) (kN:∀ q∈C,qE R q) (j:Nat) (hj:j<d-1):ax al 159 [.list 3 ((kq d a t t b (1+j) 0).map ah),ah t] (.list 3 ((kq d a t t b (1+(j+1)) 0).map ah)):=by
 have:=aj9 (kq d a t t b (1+j) 0) t (d+1+(1+j)) (by rw [pV];omega) (by rw [pV];omega) (fun x hx=>a9 (aaR d a t t b (1+j) 0 ha ht ht hb x hx) ak) ae (fun i hi=>by
  rw [gS _ _ _ _ _ _ _ _ ae]
  split
  ·grind
  ·first | exact gg | (rw [if_pos hi];exact gg)) (by
  rw [gS _ _ _ _ _ _ _ _ ae,if_neg ae,if_neg ae,if_neg ae];exact dp)
 rw [aod] at this
 rwa [show 1+(j+1)=1+j+1 by omega]
theorem au0 (d:Nat) (a t b:Rat) (C:List Q4) (R:Nat) (h1:1<=d) (h6:d<=6) (cj:a<t) (dp:t<b) (ha:rl a<=64) (ht:rl t<=64) (hb:rl b<=64) (hC:C.length=d+2) (fB:1<=R) (hR:R<=10000000) (kN:∀ q∈C,qE R q) (x:Rat) (hx:x=a\/x=t):ax al 161 [.list 3 ((kq d a t t b d 0).map ah),.dk 162 [.cm (ah x)]] (ai (if x=a then d+1 else 2*d+1)):=by
 have ig:(kq d a t t b d 0).length=2*(d+1)+d+0:=pV d a t t b d 0
 have mR:∀ x∈(kq d a t t b d 0),rl x<=64:=aaR d a t t b d 0 ha ht ht hb
 have wU:rl x<=64:=by rcases hx with rfl | rfl<;>assumption
 have:=aiy 162 [.cm (ah x)] (by simp [aN,LV.pure,ar.pure]) (fun y hy=>by rw [iM.1 hy];exact⟨rfl,rfl⟩) (fun y=>decide (gj y x > 0)) (kq d a t t b d 0) nX (fun y hy=>arv x y (by have:=mR y hy;omega))
 rwa [af8 (i:=if x=a then d+1 else 2*d+1) (by rw [ig];split<;>omega) (fun j hj=>by
  have e:(kq d a t t b d 0).getD j default=(kq d a t t b d 0).getD j 0:=rfl
  rw [e,gS _ _ _ _ _ _ _ _ (by split at hj<;>omega)]
  refine decide_eq_false fun hh=>?_
  have hh:=u7.1 hh
  rcases hx with rfl | rfl
  ·rw [if_pos rfl] at hj
   rw [if_pos hj] at hh;grind
  ·rw [if_neg cG] at hj
   split at hh
   ·grind
   ·first | grind | (rw [if_pos ae] at hh;grind)) (by
  have e:∀ j,(kq d a t t b d 0).getD j default=(kq d a t t b d 0).getD j 0:=fun _=>rfl
  rw [e]
  refine decide_eq_true (u7.2 ?_)
  rcases hx with rfl | rfl
  ·rw [if_pos rfl,gS _ _ _ _ _ _ _ _ ae,if_neg ae,if_pos ae];exact cj
  ·rw [if_neg cG,gS _ _ _ _ _ _ _ _ ae,if_neg ae,if_neg ae,if_neg ae];exact dp)] at this
theorem aww (d:Nat) (a t b:Rat) (C:List Q4) (R:Nat) (h1:1<=d) (h6:d<=6) (cj:a<t) (dp:t<b) (ha:rl a<=64) (ht:rl t<=64) (hb:rl b<=64) (hC:C.length=d+2) (fB:1<=R) (hR:R<=10000000) (kN:∀ q∈C,qE R q) (x:Rat) (hx:x=t\/x=b):ax al 161 [.list 3 ((kq d a t t b d 0).map ah),.dk 163 [.cm (ah x)]] (ai (if x=t then d+1 else 2*d+1)):=by
 have ig:(kq d a t t b d 0).length=2*(d+1)+d+0:=pV d a t t b d 0
 have mR:∀ x∈(kq d a t t b d 0),rl x<=64:=aaR d a t t b d 0 ha ht ht hb
 have wU:rl x<=64:=by rcases hx with rfl | rfl<;>assumption
 have:=aiy 163 [.cm (ah x)] (by simp [aN,LV.pure,ar.pure]) (fun y hy=>by rw [iM.1 hy];exact⟨rfl,rfl⟩) (fun y=>decide (gj y x>=0)) (kq d a t t b d 0) nX (fun y hy=>asE x y (by have:=mR y hy;omega))
 rwa [af8 (i:=if x=t then d+1 else 2*d+1) (by rw [ig];split<;>omega) (fun j hj=>by
  have e:(kq d a t t b d 0).getD j default=(kq d a t t b d 0).getD j 0:=rfl
  rw [e,gS _ _ _ _ _ _ _ _ (by split at hj<;>omega)]
  refine decide_eq_false fun hh=>?_
  have hh:=vY.1 hh
  rcases hx with rfl | rfl
  ·rw [if_pos rfl] at hj
   rw [if_pos hj] at hh;grind
  ·rw [if_neg cG] at hj
   split at hh
   ·grind
   ·first | grind | (rw [if_pos ae] at hh;grind)) (by
  have e:∀ j,(kq d a t t b d 0).getD j default=(kq d a t t b d 0).getD j 0:=fun _=>rfl
  rw [e]
  refine decide_eq_true (vY.2 ?_)
  rcases hx with rfl | rfl
  ·rw [if_pos rfl,gS _ _ _ _ _ _ _ _ ae,if_neg ae,if_pos ae];exact gg
  ·rw [if_neg cG,gS _ _ _ _ _ _ _ _ ae,if_neg ae,if_neg ae,if_neg ae];exact gg)] at this
theorem aAy (d:Nat) (a t b:Rat) (C:List Q4) (R:Nat) (h1:1<=d) (h6:d<=6) (cj:a<t) (dp:t<b) (ha:rl a<=64) (ht:rl t<=64) (hb:rl b<=64) (hC:C.length=d+2) (fB:1<=R) (hR:R<=10000000) (kN:∀ q∈C,qE R q):ax al 86 [.agg [ai d,.list 3 ((bR d a t b).map ah),.list 12 (C.map dt)],ah a,ah t] (.agg [ai d,.list 3 ((bq d a t).map ah),.list 12 ((kR d a t b C).map dt)]):=by
 have ig:(kq d a t t b d 0).length=2*(d+1)+d+0:=pV d a t t b d 0
 have nj:=pH d a t b
 have e0:(bR d a t b).getD 0 0=a:=by rw [eH _ _ _ _ _ ae,if_pos ae]
 have e1:(bR d a t b).getD ((bR d a t b).length-1) 0=b:=by rw [nj,eH _ _ _ _ _ ae,if_neg ae,if_neg ae]
 have rT:∀ x∈(bR d a t b),rl x<=64:=adz ha ht hb
 have sE:=au0 d a t b C R h1 h6 cj dp ha ht hb hC fB hR kN a (.inl rfl)
 rw [if_pos rfl] at sE
 have rL:=aww d a t b C R h1 h6 cj dp ha ht hb hC fB hR kN t (.inl rfl)
 rw [if_pos rfl] at rL
 have main:=ak9 (bR d a t b) (kq d a t t b d 0) d C ((cW (2*d+1)).map fun j=>nG (bR d a t b) d ((fun j=>if j<=d then d else d+1) j) C (((kq d a t t b d 0).drop (j+1)).take d)) a t true false 0 (d-1) (fun _=>(bR d a t b)) (fun j=>kq d a t t b (1+j) 0) (d+1) (d+1) h6 ae ae (by rw [nj];omega) (by rw [nj];omega) (fun x hx=>a9 (rT x hx) ak)
  rfl rfl (by show kq d a t t b (1+(d-1)) 0=_;rw [show 1+(d-1)=d by omega]) (by show 0<(bR d a t b).length;rw [nj];omega) (by show (bR d a t b).length<=100;rw [nj];omega) (fun x hx=>a9 (rT x hx) ak) nX
  (by rw [e0,decide_eq_true rfl,Bool.true_or]) (by show (decide (t=(bR d a t b).getD 0 0) || decide (t=(bR d a t b).getD ((bR d a t b).length-1) 0))=_;rw [e0,e1,decide_eq_false cG,decide_eq_false cG];rfl) (b8 _) ae (fun _=>rfl) (fun h=>by cases h) (fun h=>by cases h) (fun _ j hj=>avW d a t b C R h1 h6 cj dp ha ht hb hC fB hR kN j hj) (fun j hj=>absurd hj (ahG _)) (fun j hj=>aui d a t b C R h1 h6 cj dp ha ht hb hC fB hR kN j hj)
  (awF d a t b C R h1 h6 cj dp ha ht hb hC fB hR kN) sE rL ae (bp _) bw (by rw [ig];simp;omega)
 have f1:((kq d a t t b d 0).take (d+1)).drop (d+1)=[]:=jQ (by rw [eG];exact amr _ _)
 have f2:((((cW (2*d+1)).map fun j=>nG (bR d a t b) d ((fun j=>if j<=d then d else d+1) j) C (((kq d a t t b d 0).drop (j+1)).take d)).take (d+1)).drop (d+1-1-d))=kR d a t b C:=by
  unfold kR
  refine uJ bw fun i g1 g2=>?_
  have hi:i<d+1:=by simpa using g2
  simp only [amw,am6,amZ,alw]
  rw [show d+1-1-d+i=i by omega,if_pos ae,aGp ae]
 rw [f1,f2,mV] at main
 exact main
theorem azI (d:Nat) (a t b:Rat) (C:List Q4) (R:Nat) (h1:1<=d) (h6:d<=6) (cj:a<t) (dp:t<b) (ha:rl a<=64) (ht:rl t<=64) (hb:rl b<=64) (hC:C.length=d+2) (fB:1<=R) (hR:R<=10000000) (kN:∀ q∈C,qE R q):ax al 86 [.agg [ai d,.list 3 ((bR d a t b).map ah),.list 12 (C.map dt)],ah t,ah b] (.agg [ai d,.list 3 ((bq d t b).map ah),.list 12 ((kX d a t b C).map dt)]):=by
 have ig:(kq d a t t b d 0).length=2*(d+1)+d+0:=pV d a t t b d 0
 have nj:=pH d a t b
 have e0:(bR d a t b).getD 0 0=a:=by rw [eH _ _ _ _ _ ae,if_pos ae]
 have e1:(bR d a t b).getD ((bR d a t b).length-1) 0=b:=by rw [nj,eH _ _ _ _ _ ae,if_neg ae,if_neg ae]
 have rT:∀ x∈(bR d a t b),rl x<=64:=adz ha ht hb
 have hwr:∀ x∈(kq d a t t b d 0),rl x<=64:=aaR d a t t b d 0 ha ht ht hb
 have yl:(kq d a t t b d 0).getD 0 0=a:=by rw [gS _ _ _ _ _ _ _ _ ae,if_pos ae]
 have hw1:(kq d a t t b d 0).getD ((kq d a t t b d 0).length-1) 0=b:=by rw [ig,gS _ _ _ _ _ _ _ _ ae,if_neg ae,if_neg ae,if_neg ae]
 have sE:=au0 d a t b C R h1 h6 cj dp ha ht hb hC fB hR kN t (.inr rfl)
 rw [if_neg cG] at sE
 have rL:=aww d a t b C R h1 h6 cj dp ha ht hb hC fB hR kN b (.inr rfl)
 rw [if_neg cG] at rL
 have main:=ak9 (bR d a t b) (kq d a t t b d 0) d C ((cW (2*d+1)).map fun j=>nG (bR d a t b) d ((fun j=>if j<=d then d else d+1) j) C (((kq d a t t b d 0).drop (j+1)).take d)) t b false true (d-1) 0 (fun j=>kq d a t t b (1+j) 0) (fun _=>(kq d a t t b d 0)) (2*d+1) (2*d+1) h6 ae ae (by rw [nj];omega) (by rw [nj];omega) (fun x hx=>a9 (rT x hx) ak)
  rfl (by show kq d a t t b (1+(d-1)) 0=_;rw [show 1+(d-1)=d by omega]) rfl nX nX (fun x hx=>a9 (hwr x hx) ak) nX
  (by rw [e0,e1,decide_eq_false cG,decide_eq_false cG];rfl) (by rw [yl,hw1,decide_eq_true rfl,Bool.or_true]) ae (b8 _) (fun h=>by cases h) (fun _=>rfl) (fun _ j hj=>avW d a t b C R h1 h6 cj dp ha ht hb hC fB hR kN j hj) (fun h=>by cases h) (fun j hj=>aui d a t b C R h1 h6 cj dp ha ht hb hC fB hR kN j hj) (fun j hj=>absurd hj (ahG _))
  (awF d a t b C R h1 h6 cj dp ha ht hb hC fB hR kN) sE rL ae (bp _) aT (by rw [ig];simp;omega)
 have f1:((kq d a t t b d 0).take (2*d+1)).drop (2*d+1)=[]:=jQ (by rw [eG];exact amr _ _)
 have f2:((((cW (2*d+1)).map fun j=>nG (bR d a t b) d ((fun j=>if j<=d then d else d+1) j) C (((kq d a t t b d 0).drop (j+1)).take d)).take (2*d+1)).drop (2*d+1-1-d))=kX d a t b C:=by
  unfold kX
  refine uJ bw fun i g1 g2=>?_
  have hi:i<d+1:=by simpa using g2
  simp only [amw,am6,amZ,alw]
  rw [show 2*d+1-1-d+i=d+i by omega,show kq d a t t b d 0=kq d a t b b d 0 by simp [kq],arD (.inr rfl) (.inl ⟨rfl,rfl⟩) ae]
  congr 1
  by_cases c:i=0
  ·rw [if_pos c,if_pos ae]
  ·rw [if_neg c,if_neg ae]
 rw [f1,f2,mV] at main
 exact main
theorem aEn {p q:List Rat} {R:Nat} (h:p.length-1+(q.length-1)<=40) (gv:p.length<=41) (jK:q.length<=41) (fB:1<=R) (rH:∀ x∈p,rl x<=R) (tq:∀ x∈q,rl x<=R):∀ x∈mo p q,rl x<=p.length*(q.length*(2*R+5))+5:=fun x hx=>by
 obtain⟨k,hk,rfl⟩:=da.1 hx
 have hS:=ae0 gv jK fB rH tq p.length
 have nN:=iG ae hS k
 have hg2:=iG (S:=2) ak (abd (n:=p.length-1+(q.length-1)) h) k
 have h3:=rG ((allM p q p.length).getD k 0) ((iN (p.length-1+(q.length-1))).getD k 0)
 omega
theorem arq {p q:List Rat} {R a b:Nat} (ha:p.length=a) (hb:q.length=b) (h1:a*b<=30) (h2:a<=6) (h3:b<=6) (fB:1<=R) (rH:∀ x∈p,rl x<=R) (tq:∀ x∈q,rl x<=R):∀ x∈mo p q,rl x<=60*R+155:=fun x hx=>by
 have h:=aEn ae ae ae fB rH tq x hx
 rw [ha,hb,<-Nat.mul_assoc] at h
 have:a*b*(2*R+5)<=30*(2*R+5):=Nat.mul_le_mul_right _ h1
 omega
structure mY (po:List aK) (d R:Nat):Prop where
 c:qq po d R
 d5:d<=5
 R1:1<=R
 R2:R<=1000
section
variable {po:List aK} {d R:Nat} (h:mY po d R)
include h
theorem mY.n (k:Nat):(bc po k).length=d+1/\∀ x∈bc po k,rl x<=2*R:=⟨by rw [nS,h.c.hl],ahS h.c.ok k⟩
theorem mY.w:(aO po).length=d+1/\∀ x∈aO po,rl x<=R:=⟨by rw [ni,h.c.hl],ahB h.c.ok⟩
theorem mY.dn (k:Nat):(dD (bc po k)).length=d/\∀ x∈dD (bc po k),rl x<=4*R+4:=by
 obtain⟨h1,h2⟩:=h.n k
 have:=h.c.hd
 have:=h.d5
 have:=h.R1
 exact⟨by rw [zr,h1,if_neg ae];omega,fun x hx=>a9 (ahC ae ae h2 x hx) ae⟩
theorem mY.dw:(dD (aO po)).length=d/\∀ x∈dD (aO po),rl x<=4*R+4:=by
 obtain⟨h1,h2⟩:=h.w
 have:=h.c.hd
 have:=h.d5
 exact⟨by rw [zr,h1,if_neg ae];omega,fun x hx=>a9 (ahC h.R1 ae h2 x hx) ae⟩
theorem mY.dd:d*(d+1)<=30:=a9 (nz h.d5 (show d+1<=6 by have:=h.d5;omega)) ak
theorem mY.m1 (k:Nat):(mo (dD (bc po k)) (aO po)).length=2*d-1+1/\∀ x∈mo (dD (bc po k)) (aO po),rl x<=240*R+395:=by
 obtain⟨h1,h2⟩:=h.dn k
 obtain⟨h3,h4⟩:=h.w
 have:=h.c.hd
 have:=h.d5
 have h9:=h.dd
 exact⟨by rw [yk,h1,h3];omega,fun x hx=>a9 (arq h1 h3 h9 ae ae ae h2 (fun x hx=>a9 (h4 x hx) ae) x hx) ae⟩
theorem mY.m2 (k:Nat):(mo (bc po k) (dD (aO po))).length=2*d-1+1/\∀ x∈mo (bc po k) (dD (aO po)),rl x<=240*R+395:=by
 obtain⟨h1,h2⟩:=h.n k
 obtain⟨h3,h4⟩:=h.dw
 have:=h.c.hd
 have:=h.d5
 have h9:=h.dd
 exact⟨by rw [yk,h1,h3];omega,fun x hx=>a9 (arq h1 h3 (by rw [fy];exact h9) ae ae ae (fun x hx=>a9 (h2 x hx) ae) h4 x hx) ae⟩
theorem mY.t (k:Nat):(fA po k).length=2*d-1+1/\∀ x∈fA po k,rl x<=480*R+791:=by
 obtain⟨h1,h2⟩:=h.m1 k
 obtain⟨_,h4⟩:=h.m2 k
 exact⟨by rw [fA,af3,h1],fun x hx=>a9 (arQ jm ae h2 h4 x hx) ae⟩
theorem mY.lo:0<(eF (aO po)).1:=by
 have hl:=ni po
 have h0:0<(aO po).length:=by rw [hl,h.c.hl];omega
 obtain⟨i,hi,e⟩:=((aeg (aO po) (aO po).length).2 h0).1
 show 0<(nL (aO po) (aO po).length).1
 rw [e]
 obtain⟨q,hq,hw⟩:=da.1 (dK (p:=aO po) hi)
 rw [<-hw]
 exact(h.c.ok q hq).2.2
theorem mY.sq:dy (2*R) (l9 (eF (aO po)))/\il (l9 (eF (aO po))) 0=false:=by
 have h0:0<(aO po).length:=by rw [ni,h.c.hl];omega
 exact⟨aD5 (ai7 h.R1 h.w.2) h.R1,(sq_pos h.lo (aDX h0)).2⟩
theorem mY.bt (k:Nat):dy (480*R+791) (eF (fA po k)):=ai7 ae (h.t k).2
theorem mY.qu (k:Nat):dy (482*R+792) (uM (eF (fA po k)) (l9 (eF (aO po)))):=(asJ (h.bt k) h.sq.1).le ae
end
def qA (W:Rat) (po:List aK) (k:Nat):Rat × Rat:=uM (uM (eF (fA po k)) (l9 (eF (aO po)))) (W,W)
def tk (W:Rat) (po:List aK):qt:=⟨qA W po 0,qA W po 1,qA W po 2⟩
theorem aCE {W:Rat} (h:W≠0):il (W,W) 0=false:=by
 unfold il
 rcases(show W<0\/0<W by grind) with g | g
 ·rw [decide_eq_true (by show W<=0;grind),decide_eq_false (by show ¬(0<=W);grind)];rfl
 ·rw [decide_eq_false (by show ¬(W<=0);grind)];rfl
def amN (W:Rat) (po:List aK) (x:Rat):V3:=jY (1/(W*(aG (aO po) x*aG (aO po) x))) ⟨aG (fA po 0) x,aG (fA po 1) x,aG (fA po 2) x⟩
open gQ in
theorem av7 (d:Nat) (kn:List Rat) (po:List aK) (R:Nat) (h:mY po d R):ax al 185 [.agg [ai d,.list 3 (kn.map ah),.list 12 (po.map aW)]] (.agg [.list 3 ((fA po 0).map ah),.list 3 ((fA po 1).map ah),.list 3 ((fA po 2).map ah)]):=by
 have hl:=h.c.hl
 have hd:=h.c.hd
 have h6:=h.c.h6
 have h5:=h.d5
 have fB:=h.R1
 have hR2:=h.R2
 have gJ:LV.pure (.agg [ai d,.list 3 (kn.map ah),.list 12 (po.map aW)])=true:=by simp [LV.pure,aN,a7 ar,a7 bH]
 have w1:=h.w
 have w2:=h.dw
 have n0:=h.n 0
 have d0:=h.dn 0
 have p0a:=h.m1 0
 have p0b:=h.m2 0
 have n1:=h.n 1
 have d1:=h.dn 1
 have p1a:=h.m1 1
 have p1b:=h.m2 1
 have n2:=h.n 2
 have d2:=h.dn 2
 have p2a:=h.m1 2
 have p2b:=h.m2 2
 refine aS Tryz.func185 (ht:=(fun g=>LV.df g _ (by simp [LV.pure,aN,a7 ar]))) ?_
 refine bE ?_
 refine cp aQ (ahH d kn po R ae h.c) ?_
 refine bn ?_
 refine cp aQ (ahT (aO po) ae (fun x hx=>a9 ((w1).2 x hx) ae)) ?_
 refine iI ?_
 refine bN ?_
 refine aD ?_
 refine cr (b:=_) rfl ak ?_
 refine bI ?_
 refine a8 15 an ?_
 refine aA ?_
 refine cp aQ (ahT (bc po 0) ae (fun x hx=>a9 ((n0).2 x hx) ae)) ?_
 refine aP ?_
 refine cp au (acS (dD (bc po 0)) (aO po) (4*R+4) ae ae ae ae ae (fun x hx=>a9 ((d0).2 x hx) ae) (fun x hx=>a9 ((w1).2 x hx) ae)) ?_
 refine aA ?_
 refine cp au (acS (bc po 0) (dD (aO po)) (4*R+4) ae ae ae ae ae (fun x hx=>a9 ((n0).2 x hx) ae) (fun x hx=>a9 ((w2).2 x hx) ae)) ?_
 refine cp au (amh _ _ (2*d-1) ae p0a.1 p0b.1 (fun x hx=>a9 ((p0a).2 x hx) ae) (fun x hx=>a9 ((p0b).2 x hx) ae)) ?_
 refine bI ?_
 refine bN ?_
 refine aD ?_
 refine cr (b:=_) rfl ak ?_
 refine bI ?_
 refine a8 15 an ?_
 refine aA ?_
 refine cp aQ (ahT (bc po 1) ae (fun x hx=>a9 ((n1).2 x hx) ae)) ?_
 refine aP ?_
 refine cp au (acS (dD (bc po 1)) (aO po) (4*R+4) ae ae ae ae ae (fun x hx=>a9 ((d1).2 x hx) ae) (fun x hx=>a9 ((w1).2 x hx) ae)) ?_
 refine aA ?_
 refine cp au (acS (bc po 1) (dD (aO po)) (4*R+4) ae ae ae ae ae (fun x hx=>a9 ((n1).2 x hx) ae) (fun x hx=>a9 ((w2).2 x hx) ae)) ?_
 refine cp au (amh _ _ (2*d-1) ae p1a.1 p1b.1 (fun x hx=>a9 ((p1a).2 x hx) ae) (fun x hx=>a9 ((p1b).2 x hx) ae)) ?_
 refine bI ?_
 refine bN ?_
 refine aD ?_
 refine cr (b:=_) rfl ak ?_
 refine bI ?_
 refine a8 15 an ?_
 refine aA ?_
 refine cp aQ (ahT (bc po 2) ae (fun x hx=>a9 ((n2).2 x hx) ae)) ?_
 refine aP ?_
 refine cp au (acS (dD (bc po 2)) (aO po) (4*R+4) ae ae ae ae ae (fun x hx=>a9 ((d2).2 x hx) ae) (fun x hx=>a9 ((w1).2 x hx) ae)) ?_
 refine aA ?_
 refine cp au (acS (bc po 2) (dD (aO po)) (4*R+4) ae ae ae ae ae (fun x hx=>a9 ((n2).2 x hx) ae) (fun x hx=>a9 ((w2).2 x hx) ae)) ?_
 refine cp au (amh _ _ (2*d-1) ae p2a.1 p2b.1 (fun x hx=>a9 ((p2a).2 x hx) ae) (fun x hx=>a9 ((p2b).2 x hx) ae)) ?_
 refine bI ?_
 refine bN ?_
 refine aD ?_
 refine fi (b:=_) rfl ak ?_
 refine bF ?_
 exact ij [] rfl rfl rfl cs (dS cs rfl) aqq (.pure (by simp [LV.pure,aN,a7 ar]))
open gQ in
theorem aHQ (d:Nat) (a b:Rat) (po:List aK) (ha:rl a<=100) (hb:rl b<=100) (cL:a<b) (h9:d<=6) (R:Nat) (h:mY po d R):ax al 100 [.agg [ai d,.list 3 ((bq d a b).map ah),.list 12 (po.map aW)]] (nF (tk (b-a) po)):=by
 have hl:=h.c.hl
 have hd:=h.c.hd
 have h6:=h.c.h6
 have h5:=h.d5
 have fB:=h.R1
 have hR2:=h.R2
 have n5:∀ l:List Rat,aN (l.map ah)=true:=fun l=>a7 ar l
 have ir:=lj d a b
 have cd:=aaF d a b
 have iC:=abR d a b
 have gJ:LV.pure (.agg [ai d,.list 3 ((bq d a b).map ah),.list 12 (po.map aW)])=true:=by simp [LV.pure,aN,a7 ar,a7 bH]
 have w1:=h.w
 have hwq:=h.sq
 have hzW:=jm b a
 have hbW:dy 1000 (b-a,b-a):=⟨by show rl (b-a)<=_;omega,by show rl (b-a)<=_;omega⟩
 have hnW:il (b-a,b-a) 0=false:=aCE cG
 have u0:=h.t 0
 have qq0:=(h.qu 0).le (show 482*R+792<=1000000 by omega)
 have bb0:=(h.bt 0).le (show 480*R+791<=1000000 by omega)
 have u1:=h.t 1
 have qq1:=(h.qu 1).le (show 482*R+792<=1000000 by omega)
 have bb1:=(h.bt 1).le (show 480*R+791<=1000000 by omega)
 have u2:=h.t 2
 have qq2:=(h.qu 2).le (show 482*R+792<=1000000 by omega)
 have bb2:=(h.bt 2).le (show 480*R+791<=1000000 by omega)
 have hD:=ahl d a b po ha hb cL h9
 have hW:ax al 164 [aH (a,b)] (ah (b-a)):=alZ (a,b) (by show rl b+rl a<=_;omega)
 have z0:ax al 186 [aH (uM (eF (fA po 0)) (l9 (eF (aO po)))),aH (b-a,b-a)] (.bf [aH (qA (b-a) po 0),iL 0]):=ac5 (uM (eF (fA po 0)) (l9 (eF (aO po)))) (b-a,b-a) 1000000 ak qq0 (hbW.le ak) hnW
 have z1:ax al 186 [aH (uM (eF (fA po 1)) (l9 (eF (aO po)))),aH (b-a,b-a)] (.bf [aH (qA (b-a) po 1),iL 0]):=ac5 (uM (eF (fA po 1)) (l9 (eF (aO po)))) (b-a,b-a) 1000000 ak qq1 (hbW.le ak) hnW
 have z2:ax al 186 [aH (uM (eF (fA po 2)) (l9 (eF (aO po)))),aH (b-a,b-a)] (.bf [aH (qA (b-a) po 2),iL 0]):=ac5 (uM (eF (fA po 2)) (l9 (eF (aO po)))) (b-a,b-a) 1000000 ak qq2 (hbW.le ak) hnW
 refine aS Tryz.func100 (ht:=(fun r=>LV.df r _ (zp.pure _))) ?_
 refine dH ?_
 refine cp aQ (hD) ?_
 refine cp aQ (hW) ?_
 refine cp aQ (sT (b-a) ae) ?_
 refine aY ?_
 refine cp aQ (ahH d (bq d a b) po R ae h.c) ?_
 refine av ?_
 refine cp aQ (aic (aO po) ae (fun x hx=>a9 ((w1).2 x hx) ae)) ?_
 refine cp aQ (aI7 (eF (aO po)) R ae (ai7 ae w1.2)) ?_
 refine bn ?_
 refine cp aQ (av7 d (bq d a b) po R h) ?_
 refine aA ?_
 refine bN ?_
 refine aD ?_
 refine cr (b:=_) rfl ak ?_
 refine dG ?_
 refine ie 8 [6] an ?_
 refine av ?_
 refine cp aQ (aic (fA po 0) ae (fun x hx=>a9 ((u0).2 x hx) ae)) ?_
 refine av ?_
 refine cp au (ac5 (eF (fA po 0)) (l9 (eF (aO po))) 1000000 ak bb0 (hwq.1.le ae) hwq.2) ?_
 refine bF ?_
 refine cp au (z0) ?_
 refine bn ?_
 refine cy (az.kill _ 8) ?_
 refine aA ?_
 refine bN ?_
 refine aD ?_
 refine cr (b:=_) rfl ak ?_
 refine dG ?_
 refine ie 8 [6] an ?_
 refine av ?_
 refine cp aQ (aic (fA po 1) ae (fun x hx=>a9 ((u1).2 x hx) ae)) ?_
 refine av ?_
 refine cp au (ac5 (eF (fA po 1)) (l9 (eF (aO po))) 1000000 ak bb1 (hwq.1.le ae) hwq.2) ?_
 refine bF ?_
 refine cp au (z1) ?_
 refine bn ?_
 refine cy (az.kill _ 8) ?_
 refine aA ?_
 refine bN ?_
 refine aD ?_
 refine cr (b:=_) rfl ak ?_
 refine dG ?_
 refine ie 8 [6] an ?_
 refine av ?_
 refine cp aQ (aic (fA po 2) ae (fun x hx=>a9 ((u2).2 x hx) ae)) ?_
 refine av ?_
 refine cp au (ac5 (eF (fA po 2)) (l9 (eF (aO po))) 1000000 ak bb2 (hwq.1.le ae) hwq.2) ?_
 refine bF ?_
 refine cp au (z2) ?_
 refine bn ?_
 refine cy (az.kill _ 8) ?_
 refine aA ?_
 refine bN ?_
 refine aD ?_
 refine fi (b:=_) rfl ak ?_
 refine bF ?_
 exact ij [] rfl rfl rfl cs (dS cs rfl) T97 (.pure pu)
open gQ in
theorem aEo (d:Nat) (a b:Rat) (po:List aK) (ha:rl a<=100) (hb:rl b<=100) (cL:a<b) (h9:d<=6) (R:Nat) (h:mY po d R) (t x:Rat) (ht:rl t<=100) (h1:a<=t) (h2:t<=b) (hx:(t-a)/(b-a)=x) (wU:rl x<=1000):ax al 104 [.agg [ai d,.list 3 ((bq d a b).map ah),.list 12 (po.map aW)],ah t] (.bf [a6 (amN (b-a) po x),iL 0]):=by
 have oh:0<po.length:=by have:=h.c.hl;omega
 have hl:=h.c.hl
 have hd:=h.c.hd
 have h6:=h.c.h6
 have h5:=h.d5
 have fB:=h.R1
 have hR2:=h.R2
 have n5:∀ l:List Rat,aN (l.map ah)=true:=fun l=>a7 ar l
 have ir:=lj d a b
 have cd:=aaF d a b
 have iC:=abR d a b
 have gJ:LV.pure (.agg [ai d,.list 3 ((bq d a b).map ah),.list 12 (po.map aW)])=true:=by simp [LV.pure,aN,a7 ar,a7 bH]
 have w1:=h.w
 have dM:HS (aO po) x:=ahx ae (fun y hy=>a9 (w1.2 y hy) ae) ae
 have q0:=dM.ev
 have hzW:=jm b a
 have m0:=cX (aG (aO po) x) (aG (aO po) x)
 have m2:=cX (b-a) ((aG (aO po) x)*(aG (aO po) x))
 have m1:=rG 1 ((b-a)*((aG (aO po) x)*(aG (aO po) x)))
 have eW:rl 1=1:=rfl
 have u0:=h.t 0
 have v0:HS (fA po 0) x:=ahx ae (fun y hy=>a9 (u0.2 y hy) ae) ae
 have y0:=v0.ev
 have u1:=h.t 1
 have v1:HS (fA po 1) x:=ahx ae (fun y hy=>a9 (u1.2 y hy) ae) ae
 have y1:=v1.ev
 have u2:=h.t 2
 have v2:HS (fA po 2) x:=ahx ae (fun y hy=>a9 (u2.2 y hy) ae) ae
 have y2:=v2.ev
 have uo:ax al 107 [iL 1] (ah 1):=wV 1 ak ak
 refine aS Tryz.func104 (ht:=(ki (bo.pure _) rfl)) ?_
 refine bF ?_
 refine cp au (ans d a b po ha hb cL h9 t x ht h1 h2 hx oh) ?_
 refine oV ?_
 refine aF rfl ?_ ?_<;>intro td rD
 ·first | exact rD.elim | cases td
 ·refine aL ?_
  refine a8 6 an ?_
  refine av ?_
  refine cp aQ (ahH d (bq d a b) po R ae h.c) ?_
  refine aP ?_
  refine cp au (ahk (aO po) x dM ae) ?_
  refine ba ?_
  refine ie 11 [9] an ?_
  refine cp aQ (uo) ?_
  refine aL ?_
  refine cp au (iz (aG (aO po) x) (aG (aO po) x) ae) ?_
  refine cp au (iz (b-a) ((aG (aO po) x)*(aG (aO po) x)) ae) ?_
  refine cp au (wu 1 ((b-a)*((aG (aO po) x)*(aG (aO po) x))) ae) ?_
  refine jw ?_
  refine cp aQ (av7 d (bq d a b) po R h) ?_
  refine aA ?_
  refine bN ?_
  refine aD ?_
  refine cr (b:=_) rfl ak ?_
  refine bF ?_
  refine a8 7 an ?_
  refine aA ?_
  refine cp au (ahk (fA po 0) x v0 ae) ?_
  refine cp au (iz (1/((b-a)*((aG (aO po) x)*(aG (aO po) x)))) (aG (fA po 0) x) ae) ?_
  refine bI ?_
  refine bN ?_
  refine aD ?_
  refine cr (b:=_) rfl ak ?_
  refine bF ?_
  refine a8 7 an ?_
  refine aA ?_
  refine cp au (ahk (fA po 1) x v1 ae) ?_
  refine cp au (iz (1/((b-a)*((aG (aO po) x)*(aG (aO po) x)))) (aG (fA po 1) x) ae) ?_
  refine bI ?_
  refine bN ?_
  refine aD ?_
  refine cr (b:=_) rfl ak ?_
  refine bF ?_
  refine a8 7 an ?_
  refine aA ?_
  refine cp au (ahk (fA po 2) x v2 ae) ?_
  refine cp au (iz (1/((b-a)*((aG (aO po) x)*(aG (aO po) x)))) (aG (fA po 2) x) ae) ?_
  refine bI ?_
  refine bN ?_
  refine aD ?_
  refine fi (b:=_) rfl ak ?_
  refine dG ?_
  exact vA [] rfl rfl rfl cs (dS cs rfl) ju (.pure pu) rfl (.pure rfl)
def iO (p q:V3):V3:=⟨p.y*q.z-p.z*q.y,p.z*q.x-p.x*q.z,p.x*q.y-p.y*q.x⟩
theorem aas {R:Nat} {p q:V3} (hp:cB R p) (hq:cB R q):cB (4*R+5) (iO p q):=by
 obtain⟨a1,a2,a3⟩:=hp
 obtain⟨b1,b2,b3⟩:=hq
 have g:∀ a b c d:Rat,rl a<=R->rl b<=R->rl c<=R->rl d<=R->rl (a*b-c*d)<=4*R+5:=fun a b c d h1 h2 h3 h4=>by
  have m1:=cX a b
  have m2:=cX c d
  have m3:=jm (a*b) (c*d)
  omega
 exact⟨g _ _ _ _ a2 b3 a3 b2,g _ _ _ _ a3 b1 a1 b3,g _ _ _ _ a1 b2 a2 b1⟩
def sbS (s t:Rat × Rat):Rat × Rat:=(s.1-t.2,s.2-t.1)
theorem auT {R S:Nat} {s t:Rat × Rat} (hs:dy R s) (ht:dy S t):dy (R+S+1) (sbS s t):=by
 have m1:=jm s.1 t.2
 have m2:=jm s.2 t.1
 exact⟨by show rl (s.1-t.2)<=_;have:=hs.1;have:=ht.2;omega,by show rl (s.2-t.1)<=_;have:=hs.2;have:=ht.1;omega⟩
theorem amS {A B:Rat × Rat} {a b:Rat} (h1:A.1<=a) (h2:a<=A.2) (h3:B.1<=b) (h4:b<=B.2):(sbS A B).1<=a-b/\a-b<=(sbS A B).2:=by
 unfold sbS
 constructor<;>simp only<;>grind
open gQ in
theorem ah8 (p q:V3) (R:Nat) (hR:R<=1000000000) (hp:cB R p) (hq:cB R q):ax al 198 [a6 p,a6 q] (a6 (iO p q)):=by
 obtain⟨a1,a2,a3⟩:=hp
 obtain⟨y1,y2,y3⟩:=hq
 have m01:=cX p.x q.y
 have m02:=cX p.x q.z
 have m10:=cX p.y q.x
 have m12:=cX p.y q.z
 have m20:=cX p.z q.x
 have m21:=cX p.z q.y
 refine aS Tryz.func198 (ht:=(fun r=>LV.df r _ (bo.pure _))) ?_
 refine o4 ?_
 refine bN ?_
 refine aD ?_
 refine cr (b:=_) rfl ak ?_
 refine dG ?_
 refine ao rfl (.bin rfl rfl (show dL .add .i64 0 1=some (.int .i64 ((1:Nat):Int)) from rfl)) ?_
 refine ao rfl (.bin rfl rfl (show dL .rem .i64 1 3=some (.int .i64 ((1:Nat):Int)) from rfl)) ?_
 refine av ?_
 refine ao rfl (.bin rfl rfl (show dL .add .i64 0 2=some (.int .i64 ((2:Nat):Int)) from rfl)) ?_
 refine ao rfl (.bin rfl rfl (show dL .rem .i64 2 3=some (.int .i64 ((2:Nat):Int)) from rfl)) ?_
 refine aA ?_
 refine a8 17 an ?_
 refine aY ?_
 refine cp au (iz p.y q.z ae) ?_
 refine aD ?_
 refine cp au (iz p.z q.y ae) ?_
 refine cp au (rN (p.y*q.z) (p.z*q.y) ae) ?_
 refine bI ?_
 refine bN ?_
 refine aD ?_
 refine cr (b:=_) rfl ak ?_
 refine dG ?_
 refine ao rfl (.bin rfl rfl (show dL .add .i64 1 1=some (.int .i64 ((2:Nat):Int)) from rfl)) ?_
 refine ao rfl (.bin rfl rfl (show dL .rem .i64 2 3=some (.int .i64 ((2:Nat):Int)) from rfl)) ?_
 refine av ?_
 refine ao rfl (.bin rfl rfl (show dL .add .i64 1 2=some (.int .i64 ((3:Nat):Int)) from rfl)) ?_
 refine ao rfl (.bin rfl rfl (show dL .rem .i64 3 3=some (.int .i64 ((0:Nat):Int)) from rfl)) ?_
 refine aA ?_
 refine a8 17 an ?_
 refine aY ?_
 refine cp au (iz p.z q.x ae) ?_
 refine aD ?_
 refine cp au (iz p.x q.z ae) ?_
 refine cp au (rN (p.z*q.x) (p.x*q.z) ae) ?_
 refine bI ?_
 refine bN ?_
 refine aD ?_
 refine cr (b:=_) rfl ak ?_
 refine dG ?_
 refine ao rfl (.bin rfl rfl (show dL .add .i64 2 1=some (.int .i64 ((3:Nat):Int)) from rfl)) ?_
 refine ao rfl (.bin rfl rfl (show dL .rem .i64 3 3=some (.int .i64 ((0:Nat):Int)) from rfl)) ?_
 refine av ?_
 refine ao rfl (.bin rfl rfl (show dL .add .i64 2 2=some (.int .i64 ((4:Nat):Int)) from rfl)) ?_
 refine ao rfl (.bin rfl rfl (show dL .rem .i64 4 3=some (.int .i64 ((1:Nat):Int)) from rfl)) ?_
 refine aA ?_
 refine a8 17 an ?_
 refine aY ?_
 refine cp au (iz p.x q.y ae) ?_
 refine aD ?_
 refine cp au (iz p.y q.x ae) ?_
 refine cp au (rN (p.x*q.y) (p.y*q.x) ae) ?_
 refine bI ?_
 refine bN ?_
 refine aD ?_
 refine fi (b:=_) rfl ak ?_
 refine bF ?_
 exact tj
open gQ in
theorem aty (s t:Rat × Rat) (R:Nat) (hR:R<=1000000000) (hs:dy R s) (ht:dy R t):ax al 187 [aH s,aH t] (aH (sbS s t)):=by
 obtain⟨a1,a2⟩:=hs
 obtain⟨y1,y2⟩:=ht
 refine aS Tryz.func187 ?_
 refine bn ?_
 refine a8 11 an ?_
 refine aA ?_
 refine cp au (rN s.1 t.2 ae) ?_
 refine aA ?_
 refine cp au (rN s.2 t.1 ae) ?_
 refine ba ?_
 exact tO
def kx (d:Nat) (T:Rat) (fL:List Rat) (E:Rat):List Rat:=ay (d+1) T++(fL++ay (d+1) E)
theorem an8 (d:Nat) (T:Rat) (fL:List Rat) (E:Rat):(kx d T fL E).length=2*(d+1)+fL.length:=by simp [kx];omega
theorem ai8 (d:Nat) (T:Rat) (fL:List Rat) (E:Rat) (i:Nat) (h:i<2*(d+1)+fL.length):(kx d T fL E).getD i 0=if i<d+1 then T else if i<d+1+fL.length then fL.getD (i-(d+1)) 0 else E:=by
 unfold kx
 split
 ·rw [x8 bw,u5 ae]
 ·rw [yK bw,tf]
  split
  ·rw [x8 ae]
  ·rw [yK ae,u5 ae]
theorem asx {l:List Rat} {t:Rat} (h:∀ x∈l,x≠t):∀ i,i<=l.length->gu l t i=0
 | 0,_=>rfl
 | i+1,hi=>by rw [gu,asx h i ae,if_neg (h _ (dK ae))]
theorem avT (d:Nat) (T:Rat) (fL:List Rat) (E t:Rat):gu (kx d T fL E) t (kx d T fL E).length=(if T=t then d+1 else 0)+(gu fL t fL.length+(if E=t then d+1 else 0)):=by
 have h:=agw (ay (d+1) T) (fL++ay (d+1) E) t (fL.length+(d+1))
 have h2:=agw fL (ay (d+1) E) t (d+1)
 rw [tf] at h
 have e:(kx d T fL E).length=d+1+(fL.length+(d+1)):=by rw [an8];omega
 rw [e]
 show gu (ay (d+1) T++_) t _=_
 rw [h,h2,afr _ _ _ _ (bp _),afr _ _ _ _ (bp _)]
structure ana (d:Nat) (T:Rat) (fL:List Rat) (E:Rat):Prop where
 btw:∀ x∈fL,T<x/\x<E
 srt:∀ i,i+1<fL.length->fL.getD i 0<=fL.getD (i+1) 0
 tms:∀ x∈fL,gu fL x fL.length<=d
 len:fL.length<=2
 sz:∀ x∈fL,rl x<=64
theorem at2 {d:Nat} {T E:Rat} {fL:List Rat} (h1:1<=d) (h6:d<=6) (hT:rl T<=64) (hE:rl E<=64) (hTE:T<E) (h:ana d T fL E):kOK (kx d T fL E) d:=by
 have hl:=an8 d T fL E
 have hn:=h.len
 have aX:T≠E:=by grind
 have e0:(kx d T fL E).getD 0 0=T:=by rw [ai8 _ _ _ _ _ ae,if_pos ae]
 have e1:(kx d T fL E).getD ((kx d T fL E).length-1) 0=E:=by rw [hl,ai8 _ _ _ _ _ ae,if_neg ae,if_neg ae]
 have hm:∀ x∈kx d T fL E,x=T\/x∈fL\/x=E:=fun x hx=>by
  rcases oy.1 hx with g | g
  ·exact .inl (so.1 g).2
  ·rcases oy.1 g with g | g
   ·exact .inr (.inl g)
   ·exact .inr (.inr (so.1 g).2)
 refine⟨h1,h6,ae,ae,fun i hi=>?_,by rw [e0,e1];exact aX,fun t ht he=>?_,fun t ht g0 g1=>?_,fun x hx=>?_⟩
 ·rw [ai8 _ _ _ _ _ ae,ai8 _ _ _ _ _ ae]
  by_cases c1:i+1<d+1
  ·rw [if_pos ae,if_pos c1];exact gg
  ·rw [if_neg c1]
   by_cases c2:i<d+1
   ·rw [if_pos c2]
    split
    ·exact gR (h.btw _ (dK ae)).1
    ·exact gR hTE
   ·rw [if_neg c2]
    by_cases c3:i+1<d+1+fL.length
    ·rw [if_pos ae,if_pos c3,show i+1-(d+1)=i-(d+1)+1 by omega]
     exact h.srt _ ae
    ·rw [if_neg c3]
     split
     ·exact gR (h.btw _ (dK ae)).2
     ·exact gg
 ·rw [avT]
  rw [e0,e1] at he
  have z:∀ s,(s=T\/s=E)->gu fL s fL.length=0:=fun s hs=>asx (fun x hx e=>by
   have:=h.btw x hx
   rcases hs with rfl | rfl
   ·rw [e] at this;exact absurd this.1 cG
   ·rw [e] at this;exact absurd this.2 cG) _ (bp _)
  rw [z t he]
  rcases he with rfl | rfl
  ·rw [if_pos rfl,if_neg (fun e=>aX e.symm)]
  ·rw [if_neg aX,if_pos rfl];omega
 ·rw [e0] at g0;rw [e1] at g1
  rw [avT,if_neg (fun e=>g0 e.symm),if_neg (fun e=>g1 e.symm)]
  rcases hm t ht with e | e | e
  ·exact absurd e g0
  ·have:=h.tms t e;omega
  ·exact absurd e g1
 ·rcases hm x hx with rfl | g | rfl
  ·exact hT
  ·exact h.sz x g
  ·exact hE
open gQ in
theorem aCr (d:Nat) (kn:List Rat) (po:List aK) (R:Nat) (hR:R<=1000000) (h:qq po d R):ax al 45 [.agg [ai d,.list 3 (kn.map ah),.list 12 (po.map aW)]] (nF (bxP (po.map (·.p)))):=by
 have hl:=h.hl
 have hd:=h.hd
 have h6:=h.h6
 have hpb:∀ i,i<(po.map (·.p)).length->cB R ((po.map (·.p)).getD i default):=fun i hi=>by
  rw [fo] at hi
  rw [ayy]
  exact(h.ok _ (rX hi)).1
 have gJ:LV.pure (.agg [ai d,.list 3 (kn.map ah),.list 12 (po.map aW)])=true:=by simp [LV.pure,aN,a7 ar,a7 bH]
 refine aS Tryz.func45 (ht:=(fun r=>LV.df r _ (zp.pure _))) ?_
 refine bE ?_
 refine cp aQ (aHN d kn po R hR h) ?_
 refine cp aQ (aFj (po.map (·.p)) ma ma R hR hpb) ?_
 refine iI ?_
 exact ij [] rfl rfl rfl cs (dS cs rfl) T97 (.pure pu)
def kH (l:List Int) (j:Nat):Rat:=((1+eA l j 3:Int):Rat)/((1+eA l (bK l j) 2:Int):Rat)
def dZ (l:List Int) (d:Nat) (k:List Rat) (j:Nat):Nat:=if k.length=d+1 then j else bK l j
def rZ (l:List Int) (d:Nat) (k:List Rat) (t:Rat) (j:Nat):Prop:=k.length=d+1\/0<eA l j 3\/t=k.getD (k.length-d) 0
instance (l:List Int) (d:Nat) (k:List Rat) (t:Rat) (j:Nat):Decidable (rZ l d k t j):=by unfold rZ;infer_instance
def oH (l:List Int) (d:Nat):Nat->List Rat->Rat->Nat->List Rat × Rat × Nat
 | 0,k,t,j=>(k,t,j)
 | n+1,k,t,j=>if rZ l d k t j then oH l d n (k++[t+kH l (dZ l d k j)]) (t+kH l (dZ l d k j)) (bK l (bK l (dZ l d k j))) else oH l d n (k++[t]) t (dZ l d k j)
theorem ac2 (l:List Int) (j:Nat):0<kH l j/\rl (kH l j)<=2:=by
 have h1:=oT (l:=l) (k:=j) (n:=3) ak
 have h2:=oT (l:=l) (k:=bK l j) (n:=2) ak
 have r1:rl ((1+eA l j 3:Int):Rat)<=1:=adQ ae
 have r2:rl ((1+eA l (bK l j) 2:Int):Rat)<=1:=adQ ae
 have r3:=rG ((1+eA l j 3:Int):Rat) ((1+eA l (bK l j) 2:Int):Rat)
 refine⟨?_,by unfold kH;omega⟩
 unfold kH
 rw [jo]
 exact Rat.mul_pos (vw.2 ae) (Rat.inv_pos.2 (vw.2 ae))
theorem aGo (l:List Int) {d n:Nat} {T:Rat} (hd:1<=d) (hn:n<=2) (hT:rl T<=1) (j:Nat) :
  ∃ fL t j',oH l d n (ay (d+1) T) T j=(ay (d+1) T++fL,t,j')/\fL.length=n/\ana d T fL (t+1)/\rl t<=7/\T<t+1:=by
 have eW:rl 1=1:=rfl
 match n,hn with
 | 0,_ =>
  refine⟨[],T,j,by rw [mV];rfl,rfl,⟨fun x hx=>(by cases hx),fun i hi=>(by simp at hi),fun x hx=>(by cases hx),by decide,fun x hx=>(by cases hx)⟩,ae,by grind⟩
 | 1,_ =>
  have hF:=ac2 l (dZ l d (ay (d+1) T) j)
  have hb:rZ l d (ay (d+1) T) T j:=.inl aT
  refine⟨[T+kH l (dZ l d (ay (d+1) T) j)],T+kH l (dZ l d (ay (d+1) T) j),bK l (bK l (dZ l d (ay (d+1) T) j)),by rw [oH,if_pos hb,oH],rfl,?_,?_,?_⟩
  ·generalize kH l _=f at hF
   have:=kC T f
   refine⟨fun x hx=>?_,fun i hi=>(by simp at hi),fun x hx=>?_,by simp,fun x hx=>?_⟩
   ·rw [iM.1 hx];constructor<;>grind
   ·show gu _ x 1<=d
    have:=afV [T+f] x 1
    omega
   ·rw [iM.1 hx];omega
  ·have:=kC T (kH l (dZ l d (ay (d+1) T) j));omega
  ·grind
 | 2,_ =>
  have hb:rZ l d (ay (d+1) T) T j:=.inl aT
  have hF:=ac2 l (dZ l d (ay (d+1) T) j)
  rw [oH,if_pos hb]
  generalize bK l (bK l (dZ l d (ay (d+1) T) j))=j1
  generalize kH l (dZ l d (ay (d+1) T) j)=f at *
  have a1:=kC T f
  rw [oH]
  by_cases xa:rZ l d (ay (d+1) T++[T+f]) (T+f) j1
  ·rw [if_pos xa,oH]
   have hG:=ac2 l (dZ l d (ay (d+1) T++[T+f]) j1)
   generalize bK l (bK l (dZ l d (ay (d+1) T++[T+f]) j1))=j2
   generalize kH l (dZ l d (ay (d+1) T++[T+f]) j1)=g at *
   have a2:=kC (T+f) g
   refine⟨[T+f,T+f+g],T+f+g,j2,by rw [xh];rfl,rfl,⟨fun x hx=>?_,fun i hi=>?_,fun x hx=>?_,by simp,fun x hx=>?_⟩,ae,by grind⟩
   ·simp only [fu,jn,or_false] at hx
    rcases hx with rfl | rfl<;>constructor<;>grind
   ·obtain rfl:i=0:=by simp at hi;omega
    show T+f<=T+f+g
    grind
   ·show gu _ x 2<=d
    have aX:T+f≠T+f+g:=by grind
    have e:gu [T+f,T+f+g] x 2=0+(if T+f=x then 1 else 0)+(if T+f+g=x then 1 else 0):=rfl
    rw [e]
    by_cases c:T+f=x
    ·rw [if_pos c,if_neg (fun e=>aX (c.trans e.symm))];omega
    ·rw [if_neg c];split<;>omega
   ·simp only [fu,jn,or_false] at hx
    rcases hx with rfl | rfl<;>omega
  ·rw [if_neg xa,oH]
   have xo:2<=d:=by
    rcases gM d 2 with c | c
    ·exfalso
     obtain rfl:d=1:=by omega
     refine xa (.inr (.inr ?_))
     rw [show (ay (1+1) T++[T+f]).length-1=2 by simp,yK aT];simp
    ·exact c
   refine⟨[T+f,T+f],T+f,dZ l d (ay (d+1) T++[T+f]) j1,by rw [xh];rfl,rfl,⟨fun x hx=>?_,fun i hi=>?_,fun x hx=>?_,by simp,fun x hx=>?_⟩,ae,by grind⟩
   ·simp only [fu,jn,or_false,or_self] at hx
    subst hx;constructor<;>grind
   ·obtain rfl:i=0:=by simp at hi;omega
    exact gg
   ·show gu _ x 2<=d
    have:=afV [T+f,T+f] x 2
    omega
   ·simp only [fu,jn,or_false,or_self] at hx
    subst hx;omega
def yD (l:List Int) (k n:Nat):Nat:=(eA l (bK l k) ((n+1:Nat):Int)).toNat
def zj (l:List Int) (d k n:Nat):List Rat × Rat × Nat:=oH l d (yD l k n) (ay (d+1) (mA l k)) (mA l k) (bK l (bK l k))
def knX (l:List Int) (d k n:Nat):List Rat:=(zj l d k n).1++ay (d+1) ((zj l d k n).2.1+1)
theorem ahr (l:List Int) (k n:Nat):(yD l k n:Int)=eA l (bK l k) ((n+1:Nat):Int)/\yD l k n<=n:=by
 have h:=oT (l:=l) (k:=bK l k) (n:=((n+1:Nat):Int)) ae
 unfold yD
 omega
structure kiI (l:List Int) (d N c:Nat) (K:List Rat) (t:Rat) (j:Nat) (R:List Rat × Rat × Nat):Prop where
 hj:j<=500
 hl:K.length+c=d+1+N
 ht:rl t+3*c<=1+3*N
 hK:∀ x∈K,rl x<=7
 hR:oH l d c K t j=R
theorem avX {K:List Rat} {t:Rat} {R:Nat} (h:∀ x∈K,rl x<=R) (ht:rl t<=R):∀ x∈K++[t],rl x<=R:=fun x hx=>by
 rcases oy.1 hx with h1 | h1
 ·exact h x h1
 ·rw [iM.1 h1];exact ht
theorem ae6 {l:List Int} {d j:Nat} {K:List Rat} (hl:l.length<=500) (hj:j<=500):dZ l d K j<=500:=by
 unfold dZ;split
 ·exact hj
 ·exact nJ hl hj
theorem kiI.yes {l:List Int} {d N c:Nat} {K:List Rat} {t:Rat} {j:Nat} {R:List Rat × Rat × Nat} (hl:l.length<=500) (hN:N<=2) (h:kiI l d N (c+1) K t j R) (hb:rZ l d K t j) :
  kiI l d N c (K++[t+kH l (dZ l d K j)]) (t+kH l (dZ l d K j)) (bK l (bK l (dZ l d K j))) R:=by
 have hF:=(ac2 l (dZ l d K j)).2
 have h1:=kC t (kH l (dZ l d K j))
 have h2:=h.ht
 have h3:=h.hl
 have h4:=h.hR
 rw [oH,if_pos hb] at h4
 exact⟨nJ hl (nJ hl (ae6 hl h.hj)),by simp;omega,ae,avX h.hK ae,h4⟩
theorem kiI.no {l:List Int} {d N c:Nat} {K:List Rat} {t:Rat} {j:Nat} {R:List Rat × Rat × Nat} (hl:l.length<=500) (hN:N<=2) (h:kiI l d N (c+1) K t j R) (hb:¬rZ l d K t j) :
  kiI l d N c (K++[t]) t (dZ l d K j) R:=by
 have h2:=h.ht
 have h3:=h.hl
 have h4:=h.hR
 rw [oH,if_neg hb] at h4
 exact⟨ae6 hl h.hj,by simp;omega,ae,avX h.hK ae,h4⟩
namespace atw
theorem aM {p q:Prop} (k:q) (e:p=q:=by simp only [e1,e2,e3,e4,p1,p2,p3,q1,q2,q3,l1,t0,t1,r1,r2,r3,r4,Nat.zero_add,Nat.reduceMul,Nat.reduceAdd,b1,b2,b3,b4,b5,b6,i1,i2,i3,i4,i5,i6,Nat.reduceBEq,l1,axp,at5,apy,iA,agm,ekb,ekj,eix,cN,List.length_map,List.append_nil,List.replicate_zero,Nat.add_zero,mG,mB,jB,List.length_cons,List.length_nil,List.nil_append,List.length_append,List.length_replicate,List.set_cons_zero,List.set_cons_succ,Nat.reduceEqDiff,reduceIte,if_true,if_false,eN,fb,aV bH,aV ar,cY,et,LV.kill,b7,af7];exact rfl):p:=e.mpr k
end atw
open atw in
theorem aHs (l:List Int) (k:Nat) (hl:l.length<=500) (d:Nat) (jS:1<=d) (hd:d<=6) (n:Nat) (hn:n<=2) (hk:k<=500):nc al 76 ⟨2,[jv l k],true⟩ [.aB 0 2 0 0,ai d,ai n] (.list 3 ((knX l d k n).map ah)) ⟨2,[jv l (zj l d k n).2.2],true⟩:=by
 have k1:=nJ (l:=l) hl hk
 have k2:=nJ (l:=l) hl k1
 have hb:=oT (l:=l) (k:=k) (n:=4) ak
 obtain⟨nh,mZ⟩:=ahr l k n
 obtain⟨yj,ht2⟩:=awQ l k
 have h1r:rl 1=1:=rfl
 refine xn Tryz.func76 ?_
 have axp:True:=trivial
 have at5:True:=trivial
 have apy:True:=trivial
 have iA:True:=trivial
 have agm:True:=trivial
 have ekb:True:=trivial
 have ekj:True:=trivial
 have eix:True:=trivial
 refine bn ?_
 refine lE 0 rfl rfl rfl (dv l _) (.cons .ptr (.cons (.cE (.pure rfl)) .nil)) .ptr (rf l k 4 ae ae ae ae) rfl (dv l _) rfl ?_
 refine ao rfl wg ?_
 refine cp aQ (rF (eA l k 4-2) ae ae) ?_
 refine nZ ?_
 refine kY (az.own (t:=8) 24 3 rfl rfl) ?_
 refine dU (fun(i:Nat) L=>(((((((St.mk L.slot (hp [(0,⟨2,[jv l (bK l k)],true⟩),(7,⟨3,[ah (mA l k)],true⟩),(24,⟨3,(ay i (mA l k)).map ah,true⟩)])).put (some 0) (.aB 0 2 0 0)).put (some 1) (ai d)).put (some 7) (.aB 7 3 0 0)).put (some 2) (ai n)).put (some 8) (.ref 24 3 0 i)).put (some 9) (ai i))) (fun i=>i<=d+1) (fun i=>d+1-i) 0 (b8 _) ?_
 rintro i L1 hi
 refine bn ?_
 refine aF rfl ?_ ?_<;>intro uf ur
 ·have dR:i<=d:=by omega
  have iA:=avk i (mA l k)
  have axp:((ay i (mA l k)).map ah).take i=(ay i (mA l k)).map ah:=de aT
  refine bn ?_
  refine bU rfl (.iw (d:=24) (news:=[ah ((mA l k))]) rfl rfl rfl rfl aT (.inl rfl) ak dE dE lU cZ rfl mj (.inl ⟨23,0,_,rfl,by decide,rfl,rfl,by simp,rfl,by simp [aN,ar.pure]⟩) bw bw ak) ?_
  refine aA ?_
  refine cy (az.kill _ 23) ?_
  refine av ?_
  refine ao rfl cM ?_
  refine aL ?_
  exact lR
 ·obtain rfl:i=d+1:=by omega
  refine bI ?_
  refine ao rfl cM ?_
  refine lE 0 rfl rfl rfl (dv l _) (.cons .ptr (.cons (.cE (.pure rfl)) .nil)) .ptr (rf l (bK l k) ((n+1:Nat):Int) ae ae ae ae) rfl (dv l _) rfl ?_
  rw [<-nh]
  refine aA ?_
  refine lp4 (fun(c:Nat) (K:List Rat) (t:Rat) (j:Nat) L=>((((((St.mk L.slot (hp [(0,⟨2,[jv l j],true⟩),(7,⟨3,[ah t],true⟩),(24,⟨3,K.map ah,true⟩)])).put (some 0) (.aB 0 2 0 0)).put (some 1) (ai d)).put (some 7) (.aB 7 3 0 0)).put (some 8) (.ref 24 3 0 K.length)).put (some 10) (ai c))) (fun c K t j=>kiI l d (yD l k n) c K t j (zj l d k n)) (fun c K t j=>c) (yD l k n) (ay (d+1) (mA l k)) (mA l k) (bK l (bK l k)) ⟨k2,by simp,ae,fun x hx=>by rw [(so.1 hx).2];omega,rfl⟩ ?_
  rintro c K t j L2 hI
  refine aY ?_
  refine aF rfl ?_ ?_<;>intro adP h30
  ·obtain⟨e,rfl⟩:∃ e,c=e+1:=⟨c-1,ae⟩
   have hj5:=hI.hj
   have hjl:=nJ (l:=l) hl hj5
   have hKl:=hI.hl
   have hrt:=hI.ht
   have hrK:=hI.hK _ (dK (p:=K) (i:=K.length-d) ae)
   have apy:(K.map ah).take K.length=K.map ah:=de aT
   have hb3:=oT (l:=l) (k:=j) (n:=3) ak
   refine aD ?_
   refine gY (fun L=>∃  (L1:St),(True)/\L=(((((((St.mk L1.slot (hp [(0,⟨2,[jv l (dZ l d K j)],true⟩),(7,⟨3,[ah t],true⟩),(24,⟨3,K.map ah,true⟩)])).put (some 0) (.aB 0 2 0 0)).put (some 1) (ai d)).put (some 7) (.aB 7 3 0 0)).put (some 8) (.ref 24 3 0 K.length)).put (some 10) (ai (e+1))).put (some 53) (bL (decide (rZ l d K t j))))) ?_ ?_
   ·refine aaM ?_
    refine anW 0 6 15 rfl an an ?_
    simp only [lQ,ai2,xy,abG]
    refine aL ?_
    refine ao rfl cM ?_
    refine aP ?_
    refine aJ ?_
    refine aZ 6 _ an rfl ?_
    refine dg 38 rfl ?_ ?_<;>intro ahK h38
    ·have hL:K.length=d+1:=by omega
     have ekb:decide (rZ l d K t j)=true:=decide_eq_true (.inl hL)
     have ekj:(dZ l d K j)=j:=if_pos hL
     refine av ?_
     refine aJ ?_
     refine aZ 7 _ an rfl ?_
     refine av ?_
     refine aJ ?_
     refine aZ 8 _ an rfl ?_
     refine av ?_
     refine aJ ?_
     refine aZ 9 _ an rfl ?_
     refine av ?_
     refine aJ ?_
     refine aZ 10 _ an rfl ?_
     refine av ?_
     refine aJ ?_
     refine anW 11 19 2 rfl an an ?_
     simp only [lQ,ai2,xy,abG]
     refine bn ?_
     refine aJ ?_
     refine aZ 19 _ an rfl ?_
     try simp only [t1,cN,abP,fw]
     refine av ?_
     refine aJ ?_
     refine aZ 20 _ an rfl ?_
     refine av ?_
     refine aJ ?_
     refine fx an ?_
     refine av ?_
     exact ae5
    ·have hL:¬K.length=d+1:=by omega
     have ekj:(dZ l d K j)=bK l j:=if_neg hL
     refine av ?_
     refine aJ ?_
     refine aZ 7 _ an rfl ?_
     refine lE 0 (bg (v:=false) rfl rfl (ahK) rfl) rfl rfl (dv l _) (.cons .ptr (.cons (.cE (.pure rfl)) .nil)) .ptr (rf l j 3 ae ae ae ae) rfl (dv l _) rfl ?_
     refine aJ ?_
     refine aZ 8 _ an rfl ?_
     refine av ?_
     refine aJ ?_
     refine aZ 9 _ an rfl ?_
     refine av ?_
     refine aJ ?_
     refine aZ 10 _ an rfl ?_
     refine av ?_
     refine aJ ?_
     refine anW 11 19 2 rfl an an ?_
     simp only [lQ,ai2,xy,abG]
     refine dg 43 rfl ?_ ?_<;>intro alA h43
     ·have ekb:decide (rZ l d K t j)=true:=decide_eq_true (.inr (.inl ae))
      refine bn ?_
      refine aJ ?_
      refine aZ 19 _ an rfl ?_
      try simp only [t1,cN,abP,fw]
      refine av ?_
      refine aJ ?_
      refine aZ 20 _ an rfl ?_
      refine av ?_
      refine aJ ?_
      refine fx an ?_
      refine av ?_
      exact ae5
     ·refine ba ?_
      refine ao (bg (v:=false) rfl rfl (alA) rfl) (.bin rfl rfl (aac (c:=K.length-d) ae ae)) ?_
      refine aP ?_
      refine aJ ?_
      refine aZ 19 _ an rfl ?_
      try simp only [t1,cN,abP,fw]
      refine cp au (tz t (K.getD (K.length-d) 0) ae) ?_
      refine aJ ?_
      refine aZ 20 _ an rfl ?_
      have ekb:decide (rZ l d K t j)=decide (t=K.getD (K.length-d) 0):=decide_eq_decide.2 ⟨fun h=>by rcases h with h | h | h<;>first | exact h | (exfalso;omega),fun h=>.inr (.inr h)⟩
      refine av ?_
      refine aJ ?_
      refine fx an ?_
      refine av ?_
      exact ae5
   ·rintro _ ⟨aJy,-,rfl⟩
    refine av ?_
    refine aF rfl ?_ ?_<;>intro tb h53
    ·have hB:rZ l d K t j:=by simpa using h53
     have hJ:=ae6 (l:=l) (d:=d) (j:=j) (K:=K) hl hj5
     have hJ2:=nJ (l:=l) hl hJ
     have hF:=ac2 l (dZ l d K j)
     have hbA:=oT (l:=l) (k:=(dZ l d K j)) (n:=3) ak
     have hbB:=oT (l:=l) (k:=bK l (dZ l d K j)) (n:=2) ak
     have haF:=kC t (kH l (dZ l d K j))
     refine gY (fun L=>∃  (L1:St),(True)/\L=((((((St.mk L1.slot (hp [(0,⟨2,[jv l (bK l (bK l (dZ l d K j)))],true⟩),(7,⟨3,[ah (t+kH l (dZ l d K j))],true⟩),(24,⟨3,K.map ah,true⟩)])).put (some 0) (.aB 0 2 0 0)).put (some 1) (ai d)).put (some 7) (.aB 7 3 0 0)).put (some 8) (.ref 24 3 0 K.length)).put (some 10) (ai (e+1)))) ?_ ?_
     ·refine aaM ?_
      refine aeN 1 rfl rfl an (.move _) ?_
      refine aeN 4 rfl rfl an (.move _) ?_
      refine jL 0 2 _ _ an rfl rfl ?_ ?_
      ·refine av ?_
       refine aJ ?_
       refine aZ 2 _ an rfl ?_
       refine lE 0 rfl rfl rfl (dv l _) (.cons .ptr (.cons (.cE (.pure rfl)) .nil)) .ptr (rf l (dZ l d K j) 3 ae ae ae ae) rfl (dv l _) rfl ?_
       refine aJ ?_
       refine aeN 3 rfl rfl an (.bin rfl rfl (sf ae ae)) ?_
       refine aZ 5 _ an rfl ?_
       refine lE 0 rfl rfl rfl (dv l _) (.cons .ptr (.cons (.cE (.pure rfl)) .nil)) .ptr (rf l (bK l (dZ l d K j)) 2 ae ae ae ae) rfl (dv l _) rfl ?_
       refine aJ ?_
       refine aZ 6 _ an rfl ?_
       refine ao rfl z8 ?_
       refine aJ ?_
       refine aZ 7 _ an rfl ?_
       refine cp au (acw (1+eA l (dZ l d K j) 3) (1+eA l (bK l (dZ l d K j)) 2) ae ae ae ae ae) ?_
       refine aJ ?_
       refine aZ 8 _ an rfl ?_
       refine cp au (pT t (kH l (dZ l d K j)) ae) ?_
       refine aJ ?_
       refine aZ 9 _ an rfl ?_
       refine av ?_
       refine aJ ?_
       refine fx an ?_
       refine av ?_
       exact ti
      ·refine lE 0 rfl rfl rfl (dv l _) (.cons .ptr (.cons (.cE (.pure rfl)) .nil)) .ptr (rf l (dZ l d K j) 3 ae ae ae ae) rfl (dv l _) rfl ?_
       refine aJ ?_
       refine aeN 3 rfl rfl an (.bin rfl rfl (sf ae ae)) ?_
       refine jL 0 5 _ _ an rfl rfl ?_ ?_
       ·refine av ?_
        refine aJ ?_
        refine aZ 5 _ an rfl ?_
        refine lE 0 rfl rfl rfl (dv l _) (.cons .ptr (.cons (.cE (.pure rfl)) .nil)) .ptr (rf l (bK l (dZ l d K j)) 2 ae ae ae ae) rfl (dv l _) rfl ?_
        refine aJ ?_
        refine aZ 6 _ an rfl ?_
        refine ao rfl z8 ?_
        refine aJ ?_
        refine aZ 7 _ an rfl ?_
        refine cp au (acw (1+eA l (dZ l d K j) 3) (1+eA l (bK l (dZ l d K j)) 2) ae ae ae ae ae) ?_
        refine aJ ?_
        refine aZ 8 _ an rfl ?_
        refine cp au (pT t (kH l (dZ l d K j)) ae) ?_
        refine aJ ?_
        refine aZ 9 _ an rfl ?_
        refine av ?_
        refine aJ ?_
        refine fx an ?_
        refine av ?_
        exact ti
       ·refine lE 0 rfl rfl rfl (dv l _) (.cons .ptr (.cons (.cE (.pure rfl)) .nil)) .ptr (rf l (bK l (dZ l d K j)) 2 ae ae ae ae) rfl (dv l _) rfl ?_
        refine aJ ?_
        refine aeN 6 rfl rfl an (.bin rfl rfl (sf ae ae)) ?_
        refine jL 0 7 _ _ an rfl rfl ?_ ?_
        ·refine av ?_
         refine aJ ?_
         refine aZ 7 _ an rfl ?_
         refine cp au (acw (1+eA l (dZ l d K j) 3) (1+eA l (bK l (dZ l d K j)) 2) ae ae ae ae ae) ?_
         refine aJ ?_
         refine aZ 8 _ an rfl ?_
         refine cp au (pT t (kH l (dZ l d K j)) ae) ?_
         refine aJ ?_
         refine aZ 9 _ an rfl ?_
         refine av ?_
         refine aJ ?_
         refine fx an ?_
         refine av ?_
         exact ti
        ·refine cp au (acw (1+eA l (dZ l d K j) 3) (1+eA l (bK l (dZ l d K j)) 2) ae ae ae ae ae) ?_
         refine aJ ?_
         refine aZ 0 _ an rfl ?_
         refine av ?_
         refine aJ ?_
         refine aZ 8 _ an rfl ?_
         refine cp au (pT t (kH l (dZ l d K j)) ae) ?_
         refine aJ ?_
         refine aZ 9 _ an rfl ?_
         refine av ?_
         refine aJ ?_
         refine fx an ?_
         refine av ?_
         exact ti
     ·rintro _ ⟨aGx,-,rfl⟩
      refine ba ?_
      first | refine bU rfl (.iw (d:=24) (news:=[ah ((t+kH l (dZ l d K j)))]) rfl rfl rfl rfl aT (.inl rfl) ak dE dE lU cZ rfl mj (.inl ⟨65,0,_,rfl,by decide,rfl,rfl,by simp,rfl,by simp [aN,ar.pure]⟩) bw bw ak) ?_ | refine bU rfl (.iw (d:=24) (news:=[ah (t)]) rfl rfl rfl rfl aT (.inl rfl) ak dE dE lU cZ rfl mj (.inl ⟨65,0,_,rfl,by decide,rfl,rfl,by simp,rfl,by simp [aN,ar.pure]⟩) bw bw ak) ?_
      refine aA ?_
      refine cy (az.kill _ 65) ?_
      refine av ?_
      refine ao rfl kL ?_
      refine aL ?_
      exact qW e (K++[(t+kH l (dZ l d K j))]) (t+kH l (dZ l d K j)) (bK l (bK l (dZ l d K j))) (hI.yes hl ae hB)
    ·have hB:¬rZ l d K t j:=by simpa using h53
     refine aD ?_
     first | refine bU rfl (.iw (d:=24) (news:=[ah ((t+kH l (dZ l d K j)))]) rfl rfl rfl rfl aT (.inl rfl) ak dE dE lU cZ rfl mj (.inl ⟨65,0,_,rfl,by decide,rfl,rfl,by simp,rfl,by simp [aN,ar.pure]⟩) bw bw ak) ?_ | refine bU rfl (.iw (d:=24) (news:=[ah (t)]) rfl rfl rfl rfl aT (.inl rfl) ak dE dE lU cZ rfl mj (.inl ⟨65,0,_,rfl,by decide,rfl,rfl,by simp,rfl,by simp [aN,ar.pure]⟩) bw bw ak) ?_
     refine aA ?_
     refine cy (az.kill _ 65) ?_
     refine av ?_
     refine ao rfl kL ?_
     refine aL ?_
     exact qW e (K++[t]) t (dZ l d K j) (hI.no hl ae hB)
  ·obtain rfl:c=0:=by omega
   have hV:=hI.hR
   rw [oH] at hV
   have hj5:=hI.hj
   have hKl:=hI.hl
   have hrt:=hI.ht
   have aKC:=kC t 1
   refine aD ?_
   refine a8 3 an ?_
   refine av ?_
   refine cp aQ (rF 1 ak ak) ?_
   refine cp au (pT t 1 ae) ?_
   refine bI ?_
   refine dU (fun(i:Nat) L=>(((((St.mk L.slot (hp [(0,⟨2,[jv l j],true⟩),(7,⟨3,[ah (t+1)],true⟩),(24,⟨3,(K++ay i (t+1)).map ah,true⟩)])).put (some 1) (ai d)).put (some 7) (.aB 7 3 0 0)).put (some 8) (.ref 24 3 0 (K.length+i))).put (some 11) (ai i))) (fun i=>i<=d+1) (fun i=>d+1-i) 0 (b8 _) ?_
   rintro i L3 hi
   refine bn ?_
   refine aF rfl ?_ ?_<;>intro aKo h72
   ·have dR:i<=d:=by omega
    have agm:K++ay i (t+1)++[t+1]=K++ay (i+1) (t+1):=by rw [xh,avk]
    have at5:((K++ay i (t+1)).map ah).take (K.length+i)=(K++ay i (t+1)).map ah:=de aT
    refine bn ?_
    refine bU rfl (.iw (d:=24) (news:=[ah (t+1)]) rfl rfl rfl rfl aT (.inl rfl) ak dE dE lU cZ rfl mj (.inl ⟨77,0,_,rfl,by decide,rfl,rfl,by simp,rfl,by simp [aN,ar.pure]⟩) bw bw ak) ?_
    refine aA ?_
    refine cy (az.kill _ 77) ?_
    refine av ?_
    refine ao rfl cM ?_
    refine aL ?_
    exact lR
   ·obtain rfl:i=d+1:=by omega
    refine bF ?_
    have hE:K++ay (d+1) (t+1)=knX l d k n:=by unfold knX;rw [<-hV]
    have zZ:j=(zj l d k n).2.2:=by rw [<-hV]
    rw [<-hE,<-zZ]
    exact ay3 [24] rfl rfl (fC ar rfl rfl aT) rfl rfl (dv l _)
abbrev Sp:=Rat × Rat
abbrev fX:=List Sp × Nat × List Int
abbrev kM:=List Sp × List Sp × Nat × Nat
def ky (s:Sp):Rat:=(s.1+s.2)/2
def q8 (s:Sp):Sp:=(s.1,ky s)
def r9 (s:Sp):Sp:=(ky s,s.2)
def zd (t:List Int):Nat->Nat
 | 0=>0
 | k+1=>if t.getD k 0<t.getD (zd t k) 0 then k else zd t k
theorem afe {t:List Int}:∀ k,k<=t.length->0<t.length->zd t k<t.length
 | 0,_,h=>h
 | k+1,h,h0=>by
   have:=afe k ae h0
   unfold zd;split<;>omega
def gy (x:fX):Nat:=zd x.2.2 x.2.2.length
def acv (x:fX) (s:Sp):fX:=(x.1.set (gy x) s,x.2.1+1,x.2.2.set (gy x) (x.2.2.getD (gy x) 0+1))
def pX (x:fX):fX:=acv x (q8 (x.1.getD (gy x) default))
def qI (x:fX):fX:=acv x (r9 (x.1.getD (gy x) default))
def aaS (l:List Sp) (w:Rat):Bool:=l.any fun s=>decide (w<s.2-s.1)
abbrev lT:=List Sp->List Sp->Bool × Nat × Nat
abbrev RunT:=List fX × Nat × List kM
def kT (v:Bool × Nat × Nat):Nat:=if v.2.1=0 then 1 else v.2.1
def kV (v:Bool × Nat × Nat):Nat:=if v.2.1=0 then 0 else v.2.2
def m9 (na:Nat) (x:fX) (v:Bool × Nat × Nat):kM:=(x.1.take na,x.1.drop na,kT v,kV v)
def pz (D:Nat) (wd:Rat) (x:fX) (v:Bool × Nat × Nat):Bool :=
 (decide (kT v=3\/kT v=4) && (decide (wd=0) || !aaS x.1 wd)) || decide (D<=x.2.1)
def oF (D W na:Nat) (wd:Rat) (lk:lT):RunT->RunT
 | ([],n,cs)=>([],n,cs)
 | (x :: st,n,cs) =>
  if W<=n then(st,n,cs++[m9 na x (false,0,0)])
  else if (lk (x.1.take na) (x.1.drop na)).1 then(st,n+1,cs)
  else if pz D wd x (lk (x.1.take na) (x.1.drop na)) then(st,n+1,cs++[m9 na x (lk (x.1.take na) (x.1.drop na))])
  else(pX x :: qI x :: st,n+1,cs)
def afx (D W na:Nat) (wd:Rat) (lk:lT):Nat->RunT->RunT
 | 0,s=>s
 | k+1,s=>afx D W na wd lk k (oF D W na wd lk s)
def uF (D:Nat) (x:fX):Nat:=2*2 ^ (D-x.2.1)-1
def gU (D:Nat) (st:List fX):Nat:=(st.map (uF D)).sum
theorem afq (D:Nat) (x:fX):1<=uF D x:=by
 unfold uF
 have:=amg (n:=D-x.2.1)
 omega
theorem aus {D:Nat} {x:fX} {s s':Sp} (h:x.2.1<D):uF D (acv x s)+uF D (acv x s')<uF D x:=by
 simp only [uF,acv]
 have h1:=amg (n:=D-(x.2.1+1))
 have h2:2 ^ (D-x.2.1)=2*2 ^ (D-(x.2.1+1)):=by
  rw [show D-x.2.1=(D-(x.2.1+1))+1 by omega,jg,fy]
 omega
theorem aIh {D:Nat} {wd:Rat} {x:fX} {v:Bool × Nat × Nat} (h:pz D wd x v=false):x.2.1<D:=by
 unfold pz at h
 simp only [Bool.or_eq_false_iff,decide_eq_false_iff_not] at h
 omega
theorem alV {D W na:Nat} {wd:Rat} {lk:lT} {x:fX} {st:List fX} {n:Nat} {cs:List kM}:gU D (oF D W na wd lk (x :: st,n,cs)).1<gU D (x :: st):=by
 have hw:=afq D x
 have hmu:gU D (x :: st)=uF D x+gU D st:=by simp [gU]
 rw [oF]
 split
 ·show gU D st<_;omega
 ·split
  ·show gU D st<_;omega
  ·split
   ·show gU D st<_;omega
   ·rename_i h
    have hd:=aIh mW
    have:=aus (x:=x) (s:=q8 (x.1.getD (gy x) default)) (s':=r9 (x.1.getD (gy x) default)) hd
    have e:gU D (pX x :: qI x :: st)=uF D (pX x)+(uF D (qI x)+gU D st):=by simp [gU]
    show gU D (pX x :: qI x :: st)<_
    rw [e,hmu]
    unfold pX qI
    omega
theorem aum {D W na:Nat} {wd:Rat} {lk:lT} {n:Nat} {cs:List kM}:∀ k,afx D W na wd lk k ([],n,cs)=([],n,cs)
 | 0=>rfl
 | k+1=>by rw [afx,oF,aum k]
def abo (D W na:Nat) (wd:Rat) (lk:lT) (s R:RunT):Prop:=∃ k,gU D s.1<=k/\afx D W na wd lk k s=R
theorem abo.step {D W na:Nat} {wd:Rat} {lk:lT} {x:fX} {st:List fX} {n:Nat} {cs:List kM} {R:RunT} (h:abo D W na wd lk (x :: st,n,cs) R) :
  abo D W na wd lk (oF D W na wd lk (x :: st,n,cs)) R:=by
 obtain⟨k,h1,h2⟩:=h
 have hmu:gU D (x :: st)=uF D x+gU D st:=by simp [gU]
 have hw:=afq D x
 match k,h1,h2 with
 | 0,h1,_=>exact absurd (show gU D (x :: st)<=0 from h1) ae
 | k+1,h1,h2 =>
  have:=alV (D:=D) (W:=W) (na:=na) (wd:=wd) (lk:=lk) (x:=x) (st:=st) (n:=n) (cs:=cs)
  exact⟨k,by have:gU D (x :: st)<=k+1:=h1;omega,h2⟩
theorem abo.nil {D W na:Nat} {wd:Rat} {lk:lT} {n:Nat} {cs:List kM} {R:RunT} (h:abo D W na wd lk ([],n,cs) R):R=([],n,cs):=by
 obtain⟨k,_,h2⟩:=h
 rw [aum] at h2;exact h2.symm
def zy (D W na:Nat) (wd:Rat) (lk:lT) (s:RunT):RunT:=afx D W na wd lk (gU D s.1) s
theorem amf (D W na:Nat) (wd:Rat) (lk:lT) (s:RunT):abo D W na wd lk s (zy D W na wd lk s):=⟨_,bp _,rfl⟩
theorem akw {D W na:Nat} {wd:Rat} {lk:lT} (I:RunT->Prop) (hI:∀ x st n cs,I (x :: st,n,cs)->I (oF D W na wd lk (x :: st,n,cs))) :
  ∀ (m:Nat) {s R:RunT},gU D s.1<=m->I s->abo D W na wd lk s R->I R/\R.1=[]
 | m,([],n,cs),R,_,hs,h=>by rw [h.nil];exact⟨hs,rfl⟩
 | 0,(x :: st,n,cs),R,hm,_,_=>by
   have hmu:gU D (x :: st)=uF D x+gU D st:=by simp [gU]
   have hw:=afq D x
   exact absurd (show gU D (x :: st)<=0 from hm) ae
 | m+1,(x :: st,n,cs),R,hm,hs,h=>by
   have:=alV (D:=D) (W:=W) (na:=na) (wd:=wd) (lk:=lk) (x:=x) (st:=st) (n:=n) (cs:=cs)
   exact akw I hI m (by have:gU D (x :: st)<=m+1:=hm;omega) (hI x st n cs hs) h.step
theorem dR (p q t:Rat):nq [p,q] t=[p+t*(q-p),q]:=by
 simp only [nq,qJ,List.length_nil,uZ,jE]
 simp
 grind
def kS (s:Rat × Rat):Rat × Rat:=(-s.2,-s.1)
def d2S (p q r s:Rat × Rat):Rat × Rat:=sbS (w9 p s) (w9 q r)
def qK (s t:Rat × Rat):Bool:=decide (ib s.1 t.1<=iy s.2 t.2)
def meB (a b:qt):Bool:=qK a.x b.x && qK a.y b.y && qK a.z b.z
def ik (a b c:V3):Rat:=1/cJ a (iO b c)
def qR (a b c:V3):V3:=⟨(jY (ik a b c) (iO b c)).x,(jY (ik a b c) (iO c a)).x,(jY (ik a b c) (iO a b)).x⟩
def qX (a b c:V3):V3:=⟨(jY (ik a b c) (iO b c)).y,(jY (ik a b c) (iO c a)).y,(jY (ik a b c) (iO a b)).y⟩
def vE (a b c:V3):V3:=⟨(jY (ik a b c) (iO b c)).z,(jY (ik a b c) (iO c a)).z,(jY (ik a b c) (iO a b)).z⟩
def uP (u v:V3):V3:=⟨u.x,(jY (-1) v).x,0⟩
def uG (u v:V3):V3:=⟨u.y,(jY (-1) v).y,0⟩
def tM:V3:=⟨0,0,1⟩
def oZ (r:V3) (l:List V3):Rat × Rat:=eF (l.map (cJ r))
def jA (r:V3) (p q:List V3):Rat × Rat:=sbS (oZ r p) (oZ r q)
def tT (s t:Rat × Rat):Bool:=decide (cT s.1=cT s.2) && decide (cT t.1=cT t.2) && decide (cT s.1*cT t.1<0)
def aln (u v:V3) (pc pd:List V3):Bool:=tT (jA (qR (uP u v) (uG u v) tM) [pc.getD 0 default] pd) (jA (qR (uP u v) (uG u v) tM) [pc.getD (pc.length-1) default] pd)
def am8 (u v:V3) (pc pd:List V3):Bool:=tT (jA (qX (uP u v) (uG u v) tM) pc [pd.getD 0 default]) (jA (qX (uP u v) (uG u v) tM) pc [pd.getD (pd.length-1) default])
def nI (sc sd:qt) (u v:V3) (pc pd:List V3):Nat :=
 if il (d2S sc.x (kS sd.x) sc.y (kS sd.y)) 0 then 0 else if cJ (uP u v) (iO (uG u v) tM)=0 then 2 else if aln u v pc pd && am8 u v pc pd then 3 else 2
def crV (u v:V3):Rat:=u.x*v.y-u.y*v.x
section
variable {u v:V3} (h:crV u v≠0)
include h
end
def kB (n:Nat) (q:Rat):Prop:=∃ z:Int,q=(z:Rat)/((2 ^ n:Nat):Int)
theorem two_pos (n:Nat):(0:Rat)<((2 ^ n:Nat):Int):=by
 have:=amg (n:=n)
 exact vw.2 ae
theorem aox (n:Nat):(((2 ^ (n+1):Nat):Int):Rat)=((2 ^ n:Nat):Int)*2:=by
 rw [jg];push_cast;rfl
theorem kB.mul {n:Nat} {q:Rat} (h:kB n q):∃ z:Int,q*((2 ^ n:Nat):Int)=z:=by
 obtain⟨z,rfl⟩:=h
 exact⟨z,kP (by have:=two_pos n;grind)⟩
theorem kB.of {n:Nat} {q:Rat} {z:Int} (h:q*((2 ^ n:Nat):Int)=z):kB n q:=⟨z,by
 have:=two_pos n
 rw [<-h,vo cG]⟩
theorem kB.succ {n:Nat} {q:Rat} (h:kB n q):kB (n+1) q:=by
 obtain⟨z,e⟩:=h.mul
 refine kB.of (z:=z*2) ?_
 rw [aox,<-Rat.mul_assoc,e];push_cast;rfl
theorem kB.md {n:Nat} {p q:Rat} (hp:kB n p) (hq:kB n q):kB (n+1) ((p+q)/2):=by
 obtain⟨z,e⟩:=hp.mul
 obtain⟨y,f⟩:=hq.mul
 refine kB.of (z:=z+y) ?_
 rw [aox]
 have h2:(p+q)/2*2=p+q:=kP ak
 have:(p+q)/2*(((2 ^ n:Nat):Int)*2:Rat)=(p+q)/2*2*((2 ^ n:Nat):Int):=by grind
 rw [this,h2]
 push_cast
 push_cast at e f
 rw [<-e,<-f];grind
theorem kB.sub {n:Nat} {p q:Rat} (hp:kB n p) (hq:kB n q):kB n (p-q):=by
 obtain⟨z,e⟩:=hp.mul
 obtain⟨y,f⟩:=hq.mul
 refine kB.of (z:=z-y) ?_
 push_cast
 push_cast at e f
 rw [<-e,<-f];grind
theorem ax0 (z:Int):kB 0 (z:Rat):=⟨z,by
 have:(((2 ^ 0:Nat):Int):Rat)=1:=rfl
 rw [this];grind⟩
theorem kB.le {n m:Nat} {q:Rat} (h:kB n q) (hm:n<=m):kB m q:=by
 induction m with
 | zero =>
      obtain rfl:n=0:=by omega
      exact h
 | succ m ih =>
  rcases gM n (m+1) with g | g
  ·exact(ih ae).succ
  ·obtain rfl:n=m+1:=by omega
   exact h
theorem kB.rl {n:Nat} {q:Rat} (h:kB n q) (hn:n<=24) (h1:-64<=q) (h2:q<=64):Go.Lg.rl q<=1:=by
 obtain⟨z,e⟩:=h.mul
 have hp:=two_pos n
 have hpn:2 ^ n<=2 ^ 24:=lO ak hn
 have ye:z<=64*((2 ^ n:Nat):Int):=by
  have:(z:Rat)<=((64*((2 ^ n:Nat):Int):Int):Rat):=by
   rw [<-e];rw [r8]
   exact oA h2 (gR hp)
  exact adk.1 this
 have hz2:-64*((2 ^ n:Nat):Int)<=z:=by
  have:((-64*((2 ^ n:Nat):Int):Int):Rat)<=(z:Rat):=by
   rw [<-e];rw [r8]
   exact oA h1 (gR hp)
  exact adk.1 this
 have:q=(z:Rat)/((2 ^ n:Nat):Int):=by rw [<-e,vo cG]
 rw [this]
 exact afu ae ae
def rV:Sp:=(0,1)
section
variable {a u p v:V3}
end
def kG (x:fX):LV:=.agg [.list 6 (x.1.map aH),ai x.2.1,.list 1 (x.2.2.map fR)]
def fO (c:kM):LV:=.agg [.list 6 (c.1.map aH),.list 6 (c.2.1.map aH),ai c.2.2.1,ai c.2.2.2]
def vdL (v:Bool × Nat × Nat):LV:=.agg [.v (.bool v.1),ai v.2.1,ai v.2.2]
def prW (d w:Nat) (wd:Rat):LV:=.agg [ai d,ai w,ah wd]
theorem vz (x:fX):(kG x).pure=true:=by simp [kG,LV.pure,aN,a7 cg,a7 oS]
theorem anC (c:kM):(fO c).pure=true:=by simp [fO,LV.pure,aN,a7 cg]
theorem aAi (v:Bool × Nat × Nat):(vdL v).pure=true:=by simp [vdL,LV.pure,aN]
theorem aGl (d w:Nat) (wd:Rat):(prW d w wd).pure=true:=by simp [prW,LV.pure,aN,ar.pure]
theorem aFe (x:fX):(kG x).aw=3:=rfl
theorem ak5 (c:kM):(fO c).aw=4:=rfl
theorem adY:iJ kG 3 true:=⟨aFe,fun _=>rfl,vz⟩
theorem adW:iJ fO 4 true:=⟨ak5,fun _=>rfl,anC⟩
theorem acU (l:List kM):aN (l.map fO)=true:=a7 adW l
structure aeE (P:Program) (f:Nat) (cap:List LV) (D na n:Nat) (lk:lT) (I:fX->Prop):Prop where
 len:∀ x,I x->x.1.length=n/\x.2.2.length=n
 tm:∀ x,I x->∀ t∈x.2.2,0<=t/\t<=1000
 dep:∀ x,I x->x.2.1<=D
 sp:∀ x,I x->∀ s∈x.1,dy 1000 s/\s.1<=s.2
 half:∀ x,I x->x.2.1<D->I (pX x)/\I (qI x)
 look:∀ x,I x->ax P f ([.list 6 ((x.1.take na).map aH),.list 6 ((x.1.drop na).map aH)]++cap) (vdL (lk (x.1.take na) (x.1.drop na)))
 kd:∀ x,I x->(lk (x.1.take na) (x.1.drop na)).2.1<=4/\(lk (x.1.take na) (x.1.drop na)).2.2<=4
def mh (n:Nat) (s:Sp):Prop:=kB n s.1/\kB n s.2/\0<=s.1/\s.1<s.2/\s.2<=1
def me (D:Nat) (x:fX):Prop:=∃ (s t:Sp) (i j:Int),x.1=[s,t]/\x.2.2=[i,j]/\(0<=i/\i<=x.2.1/\0<=j/\j<=x.2.1)/\x.2.1<=D/\mh x.2.1 s/\mh x.2.1 t
theorem mh.succ {n:Nat} {s:Sp} (h:mh n s):mh (n+1) s:=⟨h.1.succ,h.2.1.succ,h.2.2⟩
theorem mh.half {n:Nat} {s:Sp} (h:mh n s):mh (n+1) (q8 s)/\mh (n+1) (r9 s):=by
 obtain⟨h1,h2,h3,h4,h5⟩:=h
 have hm:=h1.md h2
 have e:(s.1+s.2)/2*2=s.1+s.2:=kP ak
 unfold q8 r9 ky
 exact⟨⟨h1.succ,hm,h3,by show s.1<(s.1+s.2)/2;grind,by show (s.1+s.2)/2<=1;grind⟩,⟨hm,h2.succ,by show 0<=(s.1+s.2)/2;grind,by show (s.1+s.2)/2<s.2;grind,h5⟩⟩
theorem mh.rl {n:Nat} {s:Sp} (h:mh n s) (hn:n<=24):Go.Lg.rl s.1<=1/\Go.Lg.rl s.2<=1:=by
 obtain⟨h1,h2,h3,h4,h5⟩:=h
 exact⟨h1.rl hn cG cG,h2.rl hn cG cG⟩
theorem afj (bs:List Nat) (c:Nat) (y:bh) (l:List (Nat × bh)):yq bs ((c,y) :: l)=(c,⟨y.sz,y.vals,y.mt && !bs.contains c⟩) :: yq bs l:=rfl
theorem aB3 {l:List (Rat × Rat)} {k:Nat} (h:k<l.length):l.take k++[l.getD k default]=l.take (k+1):=by
 rw [zb,cq h,bz,cq h];rfl
theorem anx {l:List (Rat × Rat)} {k:Nat} (h:k<l.length):l.getD k default∈l:=by
 rw [bz,cq h];exact p6 h
theorem ano:dj al 147 (kG ([],0,[])):=⟨Tryz.t147,_,by kernel_rfl,rfl,rfl,fun Z μ w=>by
 show cA Z μ w _ _
 exact⟨_,_,rfl,rfl,ad5 6,_,_,rfl,rfl,⟨rfl,rfl⟩,_,_,rfl,rfl,ad5 1,rfl⟩⟩
instance:EC al 147 kG 3 true ([],0,[]):=⟨adY,ano,yJ⟩
theorem yd:dj al 51 (fO ([],[],0,0)):=⟨Tryz.t51,_,by kernel_rfl,rfl,rfl,fun Z μ w=>by
 show cA Z μ w _ _
 exact⟨_,_,rfl,rfl,ad5 6,_,_,rfl,rfl,ad5 6,_,_,rfl,rfl,⟨rfl,rfl⟩,_,_,rfl,rfl,⟨rfl,rfl⟩,rfl⟩⟩
theorem ay7:ah (1/2)=.agg [.v (.bool false),bl 1,.list 1 ([2].map bu)]:=by
 rw [show (1/2:Rat)=qv false 1 2 from by decide +kernel,aeB false ak ak]
 rfl
theorem atj:(default:Int)=0:=rfl
theorem aEU (a b:Rat):(a+b)*(1/2)=(a+b)/2:=by grind
namespace avc
theorem aM {p q:Prop} (k:q) (e:p=q:=by simp only [e1,e2,e3,e4,p1,p2,p3,q1,q2,q3,l1,t0,t1,r1,r2,r3,r4,Nat.zero_add,Nat.reduceMul,Nat.reduceAdd,b1,b2,b3,b4,b5,b6,i1,i2,i3,i4,i5,i6,Nat.reduceBEq,z7,afj,List.set_cons_zero,List.set_cons_succ,Nat.reduceEqDiff,reduceIte,if_true,if_false,eN,fb,aV bo,aV bH,aV ar,cY,et,LV.kill,b7];exact rfl):p:=e.mpr k
end avc
open avc in
theorem aCq (a b:Rat) (h:rl a+rl b<=100000):ax al 192 [ah a,ah b] (ah ((a+b)/2)):=by
 have hz:=kC a b
 have hh:rl (1/2)=1:=by decide +kernel
 have hM:=iz (a+b) (1/2) ae
 rw [aEU] at hM
 refine aS Tryz.func192 ?_
 refine bD ?_
 refine cp au (jz a b ae) ?_
 refine cp am0 (amo) ?_
 refine aP ?_
 try refine aM ?_
 refine ahQ [9] rfl rfl (.cons (.pure (ar.pure _)) (.cons (show cV _ _ (ah (1/2)) from ay7 ▸ .agg (.cons (.pure rfl) (.cons (.pure rfl) (.cons (fC fZ rfl rfl rfl) .nil)))) .nil)) hM ?_
 refine aA ?_
 exact gr
open gQ in
theorem axI (s:Rat × Rat) (h:rl s.1+rl s.2<=100000):ax al 105 [aH s] (ah (ky s)):=by
 refine aS Tryz.func105 ?_
 refine bF ?_
 refine cp au (aCq s.1 s.2 h) ?_
 refine aA ?_
 exact gr
open gQ in
theorem aFF (s:Rat × Rat) (R:Nat) (hR:R<=10000) (hb:dy R s) (hle:s.1<=s.2):ax al 166 [aH s] (.bf [aH (q8 s),aH (r9 s)]):=by
 obtain⟨a1,a2⟩:=hb
 have hM:=axI s ae
 have ye:=kC s.1 s.2
 have hz2:=rG (s.1+s.2) 2
 have hh:rl 2=1:=by decide +kernel
 have em:(s.1+s.2)/2*2=s.1+s.2:=kP ak
 have hmr:rl (ky s)<=2*R+2:=by unfold ky;omega
 have lr:s.1<=ky s:=by unfold ky;grind
 have ot:ky s<=s.2:=by unfold ky;grind
 have hO1:=ab2 s.1 (ky s) ae
 have hO2:=ab2 (ky s) s.2 ae
 rw [show (iy s.1 (ky s),ib s.1 (ky s))=q8 s from by unfold iy ib q8;rw [if_neg cG];split<;>(first | rfl | (congr 1;grind))] at hO1
 rw [show (iy (ky s) s.2,ib (ky s) s.2)=r9 s from by unfold iy ib r9;rw [if_neg cG];split<;>(first | rfl | (congr 1;grind))] at hO2
 refine aS Tryz.func166 (ht:=(ki (cg.pure _) (cg.pure _))) ?_
 refine bI ?_
 refine cp aQ (hM) ?_
 refine ba ?_
 refine a8 8 an ?_
 refine aL ?_
 refine cp au (hO1) ?_
 refine aL ?_
 refine cp au (hO2) ?_
 refine ba ?_
 exact amW [] rfl rfl rfl (cg.aw _) (aaD _) nm (.pure (cg.pure _)) rfl rfl (cg.aw _) (aaD _) nm (.pure (cg.pure _))
namespace avb
theorem aM {p q:Prop} (k:q) (e:p=q:=by simp only [e1,e2,e3,e4,p1,p2,p3,q1,q2,q3,l1,t0,t1,r1,r2,r3,r4,Nat.zero_add,Nat.reduceMul,Nat.reduceAdd,b1,b2,b3,b4,b5,b6,i1,i2,i3,i4,i5,i6,Nat.reduceBEq,iA,gL,aV cg,List.length_map,mG,mB,jB,List.length_cons,List.length_nil,List.nil_append,List.map_nil,List.take_nil,List.append_nil,List.set_cons_zero,List.set_cons_succ,Nat.reduceEqDiff,reduceIte,if_true,if_false,eN,fb,aV bo,aV bH,aV ar,cY,et,LV.kill,b7];exact rfl):p:=e.mpr k
end avb
open avb in
theorem ar1 (l:List (Rat × Rat)) (h0:0<l.length) (hl:l.length<=1000) (hb:∀ s∈l,dy 1000000 s/\s.1<=s.2):o6 al 87 [.list 6 (l.map aH)] (.ref 1 6 0 l.length) [⟨6,l.map aH,true⟩]:=by
 refine fnO Tryz.func87 ?_
 have iA:True:=trivial
 have gL:True:=trivial
 refine o4 ?_
 refine kY (az.own (t:=3) 19 6 rfl rfl) ?_
 refine dU (fun(k:Nat) L=>(((((St.mk L.slot (hp [(19,⟨6,(l.take k).map aH,true⟩)])).put (some 3) (.ref 19 6 0 k)).put (some 6) (.list 6 (l.map aH))).put (some 7) (ai l.length)).put (some 8) (ai k))) (fun k=>k<=l.length) (fun k=>l.length-k) 0 (b8 _) ?_
 rintro k L1 hk
 refine aD ?_
 refine aF rfl ?_ ?_<;>intro wi h9
 ·have mJ:k<l.length:=by omega
  obtain⟨⟨ku,wQ⟩,hs3⟩:=hb _ (anx mJ)
  have iA:=aB3 mJ
  have gL:((l.take k).map aH).take k=(l.take k).map aH:=de z9
  have hSO:ax al 90 [ah (l.getD k default).1,ah (l.getD k default).2] (aH (l.getD k default)):=by
   have:=ab2 (l.getD k default).1 (l.getD k default).2 ae
   have e1x:iy (l.getD k default).1 (l.getD k default).2=(l.getD k default).1:=by unfold iy;split<;>grind
   have e2x:ib (l.getD k default).1 (l.getD k default).2=(l.getD k default).2:=by unfold ib;split<;>grind
   rw [e1x,e2x] at this
   exact this
  refine oV ?_
  refine cp au (hSO) ?_
  refine av ?_
  refine bU rfl (.iw (d:=19) (news:=[aH (l.getD k default)]) rfl rfl rfl rfl bw (.inl rfl) ak od od abr ash cs B54 (.inl ⟨18,0,_,rfl,by decide,rfl,rfl,by simp,rfl,by simp [aN,cg.pure]⟩) bw bw ak) ?_
  refine aA ?_
  refine cy ((az.kill _ 5).trans (az.kill _ 18)) ?_
  refine ao rfl cM ?_
  refine aL ?_
  exact iD (k+1) ae
 ·obtain rfl:k=l.length:=by omega
  have hE:l.take l.length=l:=nn
  refine bF ?_
  simp only [hE]
  exact age rfl rfl (a7 cg _)
theorem aj6 (l:List (Rat × Rat)) (h0:0<l.length) (hl:l.length<=1000) (hb:∀ s∈l,dy 1000000 s/\s.1<=s.2):ax al 87 [.list 6 (l.map aH)] (.list 6 (l.map aH)):=amu (ar1 l h0 hl hb) (a7 cg _) aT
namespace avN
theorem aM {p q:Prop} (k:q) (e:p=q:=by simp only [e1,e2,e3,e4,p1,p2,p3,q1,q2,q3,l1,t0,t1,r1,r2,r3,r4,Nat.zero_add,Nat.reduceMul,Nat.reduceAdd,b1,b2,b3,b4,b5,b6,i1,i2,i3,i4,i5,i6,Nat.reduceBEq,kG,atj,Int.toNat_natCast,Nat.zero_add,ems,emt,aV cg,aV oS,List.length_map,List.take_nil,List.nil_append,List.set_cons_zero,List.set_cons_succ,Nat.reduceEqDiff,reduceIte,if_true,if_false,eN,fb,aV bo,aV bH,aV ar,cY,et,LV.kill,b7];exact rfl):p:=e.mpr k
end avN
open avN in
theorem axo (x:fX) (n D:Nat) (hn:x.1.length=n) (ht:x.2.2.length=n) (h0:0<n) (hn9:n<=10) (hD:x.2.1<=D) (hD9:D<=1000) (htm:∀ t∈x.2.2,0<=t/\t<=1000) (s:Rat × Rat):ax al 165 [aH s,.cm (.agg [.list 6 (x.1.map aH),ai x.2.1,.list 1 (x.2.2.map fR)]),.cm (ai (gy x))] (kG (acv x s)):=by
 have hbx:LV.pure (.agg [.list 6 (x.1.map aH),ai x.2.1,.list 1 (x.2.2.map fR)])=true:=vz x
 have hpS:=a7 cg x.1
 have hpT:=a7 oS x.2.2
 have cj:gy x<n:=by
  have:=afe (t:=x.2.2) x.2.2.length (bp _) ae
  unfold gy;omega
 have htk:=htm _ (show x.2.2.getD (gy x) 0∈x.2.2 by rw [bz,cq ae];exact p6 ae)
 have ems:(x.1.map aH).set (gy x) (aH s)=(x.1.set (gy x) s).map aH:=at3.symm
 have emt:(x.2.2.map fR).set (gy x) (fR (x.2.2.getD (gy x) 0+1))=(x.2.2.set (gy x) (x.2.2.getD (gy x) 0+1)).map fR:=at3.symm
 refine aS Tryz.func165 (ht:=(fun g=>LV.df g _ (vz _))) ?_
 have ems:True:=trivial
 have emt:True:=trivial
 refine aY ?_
 refine gY (fun L=>∃  (L1:St),(True)/\L=((((((St.mk L1.slot (hp [(3,⟨6,[aH s],true⟩),(4,⟨3,[.agg [.v (.slice none 0 0),.v (.int .i64 0),.v (.slice none 0 0)]],true⟩),(5,⟨3,[.agg [.ref 6 6 0 x.1.length,ai (x.2.1+1),.ref 13 1 0 x.2.2.length]],true⟩),(6,⟨6,x.1.map aH,true⟩),(13,⟨1,x.2.2.map fR,true⟩)])).put (some 1) (.cm (.agg [.list 6 (x.1.map aH),ai x.2.1,.list 1 (x.2.2.map fR)]))).put (some 2) (.cm (ai (gy x)))).put (some 3) (.aB 3 6 0 0)).put (some 4) (.aB 4 3 0 0)).put (some 5) (.aB 5 3 0 0))) ?_ ?_
 ·refine aaM ?_
  refine eT 1 rfl rfl an (.pure nk) gz eU ?_
  refine eT 2 rfl rfl an (.pure (.sV rfl hpS rfl rfl)) gz eU ?_
  refine eT 4 rfl rfl an (.pure nk) gz eU ?_
  refine eT 5 rfl rfl an (.pure iB) gz eU ?_
  refine eT 6 rfl rfl an (.pure (.bin rfl rfl (agf ae))) gz eU ?_
  refine eT 8 rfl rfl an (.pure nk) gz eU ?_
  refine eT 9 rfl rfl an (.pure (.sV rfl hpT rfl rfl)) gz eU ?_
  refine avU 0 7 12 _ _ _ an rfl rfl rfl ?_ ?_ ?_
  ·refine av ?_
   refine aJ ?_
   refine avU 3 7 12 _ _ _ an rfl rfl rfl ?_ ?_ ?_
   ·refine bU rfl xd ?_
    refine aJ ?_
    refine jL 7 12 _ _ an rfl rfl ?_ ?_
    ·refine av ?_
     refine aJ ?_
     refine jL 10 12 _ _ an rfl rfl ?_ ?_
     ·refine bU rfl sH ?_
      refine aJ ?_
      refine jL 11 12 _ _ an rfl rfl ?_ ?_
      ·refine av ?_
       refine aJ ?_
       refine aZ 12 _ an rfl ?_
       refine av ?_
       refine aJ ?_
       refine aZ 13 _ an rfl ?_
       refine av ?_
       refine aJ ?_
       refine fx an ?_
       refine av ?_
       exact⟨_,trivial,((aj (aj (aj (aj (aj (bG (by first | exact cl | (refine aM ?_;refine jh ?_ ?_<;>repeat (first | exact trivial | refine je rfl ?_)))) cl) cl) cl) cl) cl)).symm⟩
      ·refine av ?_
       refine aJ ?_
       refine aZ 11 _ an rfl ?_
       refine av ?_
       refine aJ ?_
       refine aZ 13 _ an rfl ?_
       refine av ?_
       refine aJ ?_
       refine fx an ?_
       refine av ?_
       exact⟨_,trivial,((aj (aj (aj (aj (aj (bG (by first | exact cl | (refine aM ?_;refine jh ?_ ?_<;>repeat (first | exact trivial | refine je rfl ?_)))) cl) cl) cl) cl) cl)).symm⟩
     ·refine av ?_
      refine aJ ?_
      refine aZ 10 _ an rfl ?_
      refine bU rfl sH ?_
      refine aJ ?_
      refine aZ 11 _ an rfl ?_
      refine av ?_
      refine aJ ?_
      refine aZ 13 _ an rfl ?_
      refine av ?_
      refine aJ ?_
      refine fx an ?_
      refine av ?_
      exact⟨_,trivial,((aj (aj (aj (aj (aj (bG (by first | exact cl | (refine aM ?_;refine jh ?_ ?_<;>repeat (first | exact trivial | refine je rfl ?_)))) cl) cl) cl) cl) cl)).symm⟩
    ·refine av ?_
     refine aJ ?_
     refine aZ 7 _ an rfl ?_
     refine av ?_
     refine aJ ?_
     refine aZ 10 _ an rfl ?_
     refine bU rfl sH ?_
     refine aJ ?_
     refine aZ 11 _ an rfl ?_
     refine av ?_
     refine aJ ?_
     refine aZ 13 _ an rfl ?_
     refine av ?_
     refine aJ ?_
     refine fx an ?_
     refine av ?_
     exact⟨_,trivial,((aj (aj (aj (aj (aj (bG (by first | exact cl | (refine aM ?_;refine jh ?_ ?_<;>repeat (first | exact trivial | refine je rfl ?_)))) cl) cl) cl) cl) cl)).symm⟩
   ·refine av ?_
    refine aJ ?_
    refine jL 3 12 _ _ an rfl rfl ?_ ?_
    ·refine bU rfl xd ?_
     refine aJ ?_
     refine jL 10 12 _ _ an rfl rfl ?_ ?_
     ·refine bU rfl sH ?_
      refine aJ ?_
      refine jL 11 12 _ _ an rfl rfl ?_ ?_
      ·refine av ?_
       refine aJ ?_
       refine aZ 12 _ an rfl ?_
       refine av ?_
       refine aJ ?_
       refine aZ 13 _ an rfl ?_
       refine av ?_
       refine aJ ?_
       refine fx an ?_
       refine av ?_
       exact⟨_,trivial,((aj (aj (aj (aj (aj (bG (by first | exact cl | (refine aM ?_;refine jh ?_ ?_<;>repeat (first | exact trivial | refine je rfl ?_)))) cl) cl) cl) cl) cl)).symm⟩
      ·refine av ?_
       refine aJ ?_
       refine aZ 11 _ an rfl ?_
       refine av ?_
       refine aJ ?_
       refine aZ 13 _ an rfl ?_
       refine av ?_
       refine aJ ?_
       refine fx an ?_
       refine av ?_
       exact⟨_,trivial,((aj (aj (aj (aj (aj (bG (by first | exact cl | (refine aM ?_;refine jh ?_ ?_<;>repeat (first | exact trivial | refine je rfl ?_)))) cl) cl) cl) cl) cl)).symm⟩
     ·refine av ?_
      refine aJ ?_
      refine aZ 10 _ an rfl ?_
      refine bU rfl sH ?_
      refine aJ ?_
      refine aZ 11 _ an rfl ?_
      refine av ?_
      refine aJ ?_
      refine aZ 13 _ an rfl ?_
      refine av ?_
      refine aJ ?_
      refine fx an ?_
      refine av ?_
      exact⟨_,trivial,((aj (aj (aj (aj (aj (bG (by first | exact cl | (refine aM ?_;refine jh ?_ ?_<;>repeat (first | exact trivial | refine je rfl ?_)))) cl) cl) cl) cl) cl)).symm⟩
    ·refine av ?_
     refine aJ ?_
     refine aZ 3 _ an rfl ?_
     refine bU rfl xd ?_
     refine aJ ?_
     refine aZ 10 _ an rfl ?_
     refine bU rfl sH ?_
     refine aJ ?_
     refine aZ 11 _ an rfl ?_
     refine av ?_
     refine aJ ?_
     refine aZ 13 _ an rfl ?_
     refine av ?_
     refine aJ ?_
     refine fx an ?_
     refine av ?_
     exact⟨_,trivial,((aj (aj (aj (aj (aj (bG (by first | exact cl | (refine aM ?_;refine jh ?_ ?_<;>repeat (first | exact trivial | refine je rfl ?_)))) cl) cl) cl) cl) cl)).symm⟩
   ·refine av ?_
    refine aJ ?_
    refine jL 3 7 _ _ an rfl rfl ?_ ?_
    ·refine bU rfl xd ?_
     refine aJ ?_
     refine aZ 7 _ an rfl ?_
     refine av ?_
     refine aJ ?_
     refine aZ 10 _ an rfl ?_
     refine bU rfl sH ?_
     refine aJ ?_
     refine aZ 11 _ an rfl ?_
     refine av ?_
     refine aJ ?_
     refine aZ 13 _ an rfl ?_
     refine av ?_
     refine aJ ?_
     refine fx an ?_
     refine av ?_
     exact⟨_,trivial,((aj (aj (aj (aj (aj (bG (by first | exact cl | (refine aM ?_;refine jh ?_ ?_<;>repeat (first | exact trivial | refine je rfl ?_)))) cl) cl) cl) cl) cl)).symm⟩
    ·refine av ?_
     refine aJ ?_
     refine aZ 3 _ an rfl ?_
     refine bU rfl xd ?_
     refine aJ ?_
     refine aZ 10 _ an rfl ?_
     refine bU rfl sH ?_
     refine aJ ?_
     refine aZ 11 _ an rfl ?_
     refine av ?_
     refine aJ ?_
     refine aZ 13 _ an rfl ?_
     refine av ?_
     refine aJ ?_
     refine fx an ?_
     refine av ?_
     exact⟨_,trivial,((aj (aj (aj (aj (aj (bG (by first | exact cl | (refine aM ?_;refine jh ?_ ?_<;>repeat (first | exact trivial | refine je rfl ?_)))) cl) cl) cl) cl) cl)).symm⟩
  ·refine av ?_
   refine aJ ?_
   refine jL 0 12 _ _ an rfl rfl ?_ ?_
   ·refine av ?_
    refine aJ ?_
    refine jL 3 12 _ _ an rfl rfl ?_ ?_
    ·refine bU rfl xd ?_
     refine aJ ?_
     refine jL 10 12 _ _ an rfl rfl ?_ ?_
     ·refine bU rfl sH ?_
      refine aJ ?_
      refine jL 11 12 _ _ an rfl rfl ?_ ?_
      ·refine av ?_
       refine aJ ?_
       refine aZ 12 _ an rfl ?_
       refine av ?_
       refine aJ ?_
       refine aZ 13 _ an rfl ?_
       refine av ?_
       refine aJ ?_
       refine fx an ?_
       refine av ?_
       exact⟨_,trivial,((aj (aj (aj (aj (aj (bG (by first | exact cl | (refine aM ?_;refine jh ?_ ?_<;>repeat (first | exact trivial | refine je rfl ?_)))) cl) cl) cl) cl) cl)).symm⟩
      ·refine av ?_
       refine aJ ?_
       refine aZ 11 _ an rfl ?_
       refine av ?_
       refine aJ ?_
       refine aZ 13 _ an rfl ?_
       refine av ?_
       refine aJ ?_
       refine fx an ?_
       refine av ?_
       exact⟨_,trivial,((aj (aj (aj (aj (aj (bG (by first | exact cl | (refine aM ?_;refine jh ?_ ?_<;>repeat (first | exact trivial | refine je rfl ?_)))) cl) cl) cl) cl) cl)).symm⟩
     ·refine av ?_
      refine aJ ?_
      refine aZ 10 _ an rfl ?_
      refine bU rfl sH ?_
      refine aJ ?_
      refine aZ 11 _ an rfl ?_
      refine av ?_
      refine aJ ?_
      refine aZ 13 _ an rfl ?_
      refine av ?_
      refine aJ ?_
      refine fx an ?_
      refine av ?_
      exact⟨_,trivial,((aj (aj (aj (aj (aj (bG (by first | exact cl | (refine aM ?_;refine jh ?_ ?_<;>repeat (first | exact trivial | refine je rfl ?_)))) cl) cl) cl) cl) cl)).symm⟩
    ·refine av ?_
     refine aJ ?_
     refine aZ 3 _ an rfl ?_
     refine bU rfl xd ?_
     refine aJ ?_
     refine aZ 10 _ an rfl ?_
     refine bU rfl sH ?_
     refine aJ ?_
     refine aZ 11 _ an rfl ?_
     refine av ?_
     refine aJ ?_
     refine aZ 13 _ an rfl ?_
     refine av ?_
     refine aJ ?_
     refine fx an ?_
     refine av ?_
     exact⟨_,trivial,((aj (aj (aj (aj (aj (bG (by first | exact cl | (refine aM ?_;refine jh ?_ ?_<;>repeat (first | exact trivial | refine je rfl ?_)))) cl) cl) cl) cl) cl)).symm⟩
   ·refine av ?_
    refine aJ ?_
    refine aZ 0 _ an rfl ?_
    refine av ?_
    refine aJ ?_
    refine aZ 3 _ an rfl ?_
    refine bU rfl xd ?_
    refine aJ ?_
    refine aZ 10 _ an rfl ?_
    refine bU rfl sH ?_
    refine aJ ?_
    refine aZ 11 _ an rfl ?_
    refine av ?_
    refine aJ ?_
    refine aZ 13 _ an rfl ?_
    refine av ?_
    refine aJ ?_
    refine fx an ?_
    refine av ?_
    exact⟨_,trivial,((aj (aj (aj (aj (aj (bG (by first | exact cl | (refine aM ?_;refine jh ?_ ?_<;>repeat (first | exact trivial | refine je rfl ?_)))) cl) cl) cl) cl) cl)).symm⟩
  ·refine av ?_
   refine aJ ?_
   refine jL 0 7 _ _ an rfl rfl ?_ ?_
   ·refine av ?_
    refine aJ ?_
    refine jL 3 7 _ _ an rfl rfl ?_ ?_
    ·refine bU rfl xd ?_
     refine aJ ?_
     refine aZ 7 _ an rfl ?_
     refine av ?_
     refine aJ ?_
     refine aZ 10 _ an rfl ?_
     refine bU rfl sH ?_
     refine aJ ?_
     refine aZ 11 _ an rfl ?_
     refine av ?_
     refine aJ ?_
     refine aZ 13 _ an rfl ?_
     refine av ?_
     refine aJ ?_
     refine fx an ?_
     refine av ?_
     exact⟨_,trivial,((aj (aj (aj (aj (aj (bG (by first | exact cl | (refine aM ?_;refine jh ?_ ?_<;>repeat (first | exact trivial | refine je rfl ?_)))) cl) cl) cl) cl) cl)).symm⟩
    ·refine av ?_
     refine aJ ?_
     refine aZ 3 _ an rfl ?_
     refine bU rfl xd ?_
     refine aJ ?_
     refine aZ 10 _ an rfl ?_
     refine bU rfl sH ?_
     refine aJ ?_
     refine aZ 11 _ an rfl ?_
     refine av ?_
     refine aJ ?_
     refine aZ 13 _ an rfl ?_
     refine av ?_
     refine aJ ?_
     refine fx an ?_
     refine av ?_
     exact⟨_,trivial,((aj (aj (aj (aj (aj (bG (by first | exact cl | (refine aM ?_;refine jh ?_ ?_<;>repeat (first | exact trivial | refine je rfl ?_)))) cl) cl) cl) cl) cl)).symm⟩
   ·refine av ?_
    refine aJ ?_
    refine aZ 0 _ an rfl ?_
    refine av ?_
    refine aJ ?_
    refine aZ 3 _ an rfl ?_
    refine bU rfl xd ?_
    refine aJ ?_
    refine aZ 10 _ an rfl ?_
    refine bU rfl sH ?_
    refine aJ ?_
    refine aZ 11 _ an rfl ?_
    refine av ?_
    refine aJ ?_
    refine aZ 13 _ an rfl ?_
    refine av ?_
    refine aJ ?_
    refine fx an ?_
    refine av ?_
    exact⟨_,trivial,((aj (aj (aj (aj (aj (bG (by first | exact cl | (refine aM ?_;refine jh ?_ ?_<;>repeat (first | exact trivial | refine je rfl ?_)))) cl) cl) cl) cl) cl)).symm⟩
 ·rintro _ ⟨LR1,-,rfl⟩
  refine oV ?_
  try refine aM ?_
  refine ao rfl z8 ?_
  refine bD ?_
  exact ij [6,13] rfl rfl rfl cs (dS cs rfl) yJ (.agg (.cons (fC (l:=x.1.set (gy x) s) cg rfl rfl aT) (.cons (.pure rfl) (.cons (fC (l:=x.2.2.set (gy x) (x.2.2.getD (gy x) 0+1)) oS rfl rfl aT) .nil))))
namespace axS
theorem aM {p q:Prop} (k:q) (e:p=q:=by simp only [e1,e2,e3,e4,p1,p2,p3,q1,q2,q3,l1,t0,t1,r1,r2,r3,r4,Nat.zero_add,Nat.reduceMul,Nat.reduceAdd,b1,b2,b3,b4,b5,b6,i1,i2,i3,i4,i5,i6,Nat.reduceBEq,ht,kG,atj,Int.toNat_natCast,Nat.zero_add,els,z7,afj,List.length_map,List.set_cons_zero,List.set_cons_succ,Nat.reduceEqDiff,reduceIte,if_true,if_false,eN,fb,aV bo,aV bH,aV ar,cY,et,LV.kill,b7];exact rfl):p:=e.mpr k
end axS
open axS in
theorem alT (x:fX) (n D:Nat) (hn:x.1.length=n) (ht:x.2.2.length=n) (h0:0<n) (hn9:n<=10) (hD:x.2.1<=D) (hD9:D<=1000) (htm:∀ t∈x.2.2,0<=t/\t<=1000) (R:Nat) (hR:R<=10000) (hs:∀ s∈x.1,dy R s/\s.1<=s.2):ax al 89 [.agg [.list 6 (x.1.map aH),ai x.2.1,.list 1 (x.2.2.map fR)]] (.bf [kG (pX x),kG (qI x)]):=by
 have hbx:LV.pure (.agg [.list 6 (x.1.map aH),ai x.2.1,.list 1 (x.2.2.map fR)])=true:=vz x
 have hpS:=a7 cg x.1
 have hpT:=a7 oS x.2.2
 have cj:gy x<n:=by
  have:=afe (t:=x.2.2) x.2.2.length (bp _) ae
  unfold gy;omega
 have htk:=htm _ (show x.2.2.getD (gy x) 0∈x.2.2 by rw [bz,cq ae];exact p6 ae)
 have hsk:=hs (x.1.getD (gy x) default) (by rw [bz,cq ae];exact p6 ae)
 have hH:=aFF (x.1.getD (gy x) default) R hR hsk.1 hsk.2
 have gJ:aN ([.cm (.agg [.list 6 (x.1.map aH),ai x.2.1,.list 1 (x.2.2.map fR)]),.cm (ai (gy x))]:List LV)=true:=by simp [aN,LV.pure,a7 cg,a7 oS]
 have hcs:∀ y∈([.cm (.agg [.list 6 (x.1.map aH),ai x.2.1,.list 1 (x.2.2.map fR)]),.cm (ai (gy x))]:List LV),y.aw=1/\y.isAgg=false:=fun y hy=>by
  simp only [fu,jn,or_false] at hy
  rcases hy with e | e<;>rw [e]<;>exact⟨rfl,rfl⟩
 have hA:=axo x n D hn ht h0 hn9 hD hD9 htm (q8 (x.1.getD (gy x) default))
 have hB:=axo x n D hn ht h0 hn9 hD hD9 htm (r9 (x.1.getD (gy x) default))
 refine aS Tryz.func89 (ht:=(ki (vz _) (vz _))) ?_
 have els:True:=trivial
 refine aa2 ?_
 refine dU (fun(i:Nat) L=>((((((((St.mk L.slot (hp [(1,⟨3,[.agg [.list 6 (x.1.map aH),ai x.2.1,.list 1 (x.2.2.map fR)]],true⟩),(2,⟨3,[.agg [.v (.slice none 0 0),.v (.int .i64 0),.v (.slice none 0 0)]],true⟩),(3,⟨3,[.agg [.v (.slice none 0 0),.v (.int .i64 0),.v (.slice none 0 0)]],true⟩),(4,⟨1,[ai (zd x.2.2 i)],true⟩)])).put (some 1) (.aB 1 3 0 0)).put (some 2) (.aB 2 3 0 0)).put (some 3) (.aB 3 3 0 0)).put (some 4) (.aB 4 1 0 0)).put (some 11) (.list 1 (x.2.2.map fR))).put (some 12) (ai n)).put (some 13) (ai i))) (fun i=>i<=n) (fun i=>n-i) 0 (b8 _) ?_
 rintro i L1 hi
 refine aD ?_
 refine aF rfl ?_ ?_<;>intro rA lW
 ·have dR:i<n:=by omega
  have hli:=afe (t:=x.2.2) i ae ae
  refine aaw ?_
  refine aF rfl ?_ ?_<;>intro tc wN
  ·have els:zd x.2.2 (i+1)=i:=if_pos wN
   refine aY ?_
   refine ao rfl cM ?_
   refine aL ?_
   exact lR
  ·have els:zd x.2.2 (i+1)=zd x.2.2 i:=if_neg wN
   refine aA ?_
   refine ao rfl cM ?_
   refine aL ?_
   exact lR
 ·obtain rfl:n=i:=by omega
  have hE9:zd x.2.2 n=gy x:=by unfold gy;rw [ht]
  simp only [hE9]
  refine aY ?_
  refine nY [1,4] rfl rfl (.mk (caps:=([.cm (.agg [.list 6 (x.1.map aH),ai x.2.1,.list 1 (x.2.2.map fR)]),.cm (ai (gy x))]:List LV)) (.cons (.aB rfl rfl rfl cs (dS cs rfl) hbx rfl) (.cons (.aB (n:=1) (ag:=false) rfl rfl rfl rfl rfl rfl rfl) .nil)) hcs) rfl ?_
  refine bI ?_
  refine cp aQ (hH) ?_
  refine bI ?_
  refine a8 6 an ?_
  refine aP ?_
  refine nY [] rfl rfl (.dk (f:=165) (cap:=([.cm (.agg [.list 6 (x.1.map aH),ai x.2.1,.list 1 (x.2.2.map fR)]),.cm (ai (gy x))]:List LV)) (args:=[aH (q8 (x.1.getD (gy x) default))]) rfl (.cons (.pure (cg.pure _)) .nil) ⟨gJ,hcs⟩ hA.1 ak (fun _ h=>by cases h)) (hA.2 _) ?_
  refine aP ?_
  refine nY [] rfl rfl (.dk (f:=165) (cap:=([.cm (.agg [.list 6 (x.1.map aH),ai x.2.1,.list 1 (x.2.2.map fR)]),.cm (ai (gy x))]:List LV)) (args:=[aH (r9 (x.1.getD (gy x) default))]) rfl (.cons (.pure (cg.pure _)) .nil) ⟨gJ,hcs⟩ hB.1 ak (fun _ h=>by cases h)) (hB.2 _) ?_
  refine ba ?_
  exact amW [] rfl rfl rfl cs (dS cs rfl) yJ (.pure (vz _)) rfl rfl cs (dS cs rfl) yJ (.pure (vz _))
end Go.Proofs.YtckppbhafancnaaGreat
end
