/- Texts A4, A1, A6, A7, A8, A5, A9, U8, U9, U10, U11, U12, U13, U14, U15, U16, U17, U21, U22, U23, U18, U20, U24, U25, J1, J4, J5, J40 of this proof, joined. -/
import Derived.Test.YtbkmfcmgilhaaaaGreatQW6
set_option linter.unusedVariables false
set_option linter.unusedSimpArgs false
open Bool renaming and_self->sf,not_eq_true->y9
open Decidable renaming byContradiction->aFM
open Go.Proofs.Tryz renaming func32->aj1,func91->aAe,prog->ai,underlying124->abf,underlying135->apG,underlying153->wa,underlying157->acq,underlying22->aaU,underlying25->dp,underlying26->mg,underlying43->uW,underlying51->nF,underlying73->zF,underlying78->aeC
open Int renaming le_refl->aja,natAbs_add_le->anX,natAbs_mul->aeS,natAbs_natCast->aiM,toNat_of_nonneg->ad3
open List renaming append_assoc->pn,append_nil->ey,drop_eq_getElem_cons->xR,drop_length->abX,drop_zero->jv,foldl->tF,getD_eq_getElem?_getD->bq,getElem?_cons_succ->adO,getElem?_cons_zero->o8,getElem?_drop->u6,getElem?_eq_getElem->ck,getElem?_map->jY,getElem?_replicate->zU,getElem_mem->qX,length_append->jx,length_cons->dR,length_drop->jD,length_map->cC,length_nil->fX,length_range->atY,length_replicate->oG,length_set->lQ,length_take->fH,map->oC,map_append->wj,map_congr_left->tQ,map_cons->nK,map_map->tI,map_nil->gy,map_set->ahW,mem_append->nC,mem_append_left->awR,mem_append_right->aCs,mem_cons->dS,mem_map->cZ,mem_of_mem_drop->yF,mem_of_mem_take->yJ,mem_range->rm,mem_replicate->uK,mem_singleton->iM,nil_append->fD,not_mem_nil->jR,range->cN,replicate->av,replicate_zero->aeI,set->vg,set_cons_succ->du,set_cons_zero->dD,take_add_one->te,take_nil->gU,take_of_length_le->cy,take_succ_cons->qS,take_zero->tn
open Nat renaming add_assoc->vp,add_comm->vQ,add_mul->iV,add_sub_cancel->tD,add_zero->nW,beq->oV,beq_eq->uy,le_refl->bF,le_trans->aP,mul_assoc->iD,mul_comm->ie,mul_le_mul->nP,mul_le_mul_left->l9,mul_le_mul_right->jd,mul_one->lJ,mul_pos->oR,one_le_two_pow->apj,pow_add->nw,pow_le_pow_left->aBk,pow_le_pow_right->mN,pow_pos->ov,pow_succ->kC,reduceAdd->bp,reduceBEq->bh,reduceEqDiff->dC,reduceMul->bo,sub_self->uz,sub_zero->aie,zero_add->fZ,zero_le->bW
open Option.some renaming injEq->gj
open Rat renaming add_zero->oc,div_def->gQ,div_mul_cancel->tV,intCast_add->af6,intCast_le_intCast->awZ,intCast_mul->tx,intCast_nonneg->akq,intCast_pos->aaw,intCast_sub->ahE,le_of_lt->kL,le_refl->jM,mul_assoc->xi,mul_comm->yQ,mul_div_cancel->acd,mul_le_mul_of_nonneg_right->asn,mul_nonneg->ua,mul_pos->zW,mul_zero->abu,one_mul->wm,zero_add->aCA,zero_mul->aff
section
set_option linter.unusedVariables false
set_option linter.unusedSimpArgs false
set_option maxHeartbeats 8000000
set_option maxRecDepth 100000
attribute [local irreducible] Go.Lg.opsL Go.Lg.c9 Go.Lg.oF Go.Lg.qF
namespace Go.Proofs.YtbkmfcmgilhaaaaGreat
open Go.Lg
abbrev Sp:=Rat×Rat
abbrev ga:=List Sp×Nat×List Int
abbrev lW:=List Sp×List Sp×Nat×Nat
def jO(s:Sp):Rat:=(s.1+s.2)/2
def oY(s:Sp):Sp:=(s.1,jO s)
def qA(s:Sp):Sp:=(jO s,s.2)
def et(t:List Int):Nat->Nat
 |0=>0
 |k+1=>if t.getD k 0<t.getD (et t k) 0 then k else et t k
theorem ad1{t:List Int}:∀k,k<=t.length->0<t.length->et t k<t.length
 |0,_,h=>h
 |k+1,h,h0=>by
   have:=ad1 k J h0;unfold et;split<;>omega
def gG(x:ga):Nat:=et x.2.2 x.2.2.length
def aex(x:ga)(s:Sp):ga:=(x.1.set (gG x) s,x.2.1+1,x.2.2.set (gG x) (x.2.2.getD (gG x) 0+1))
def nJ(x:ga):ga:=aex x (oY (x.1.getD (gG x) default))
def n5(x:ga):ga:=aex x (qA (x.1.getD (gG x) default))
def tC(l:List Sp)(w:Rat):Bool:=l.any fun s=>decide (w<s.2-s.1)
abbrev mC:=List Sp->List Sp->Bool×Nat×Nat
abbrev RunT:=List ga×Nat×List lW
def mG(v:Bool×Nat×Nat):Nat:=if v.2.1=0 then 1 else v.2.1
def kV(v:Bool×Nat×Nat):Nat:=if v.2.1=0 then 0 else v.2.2
def rq(na:Nat)(x:ga)(v:Bool×Nat×Nat):lW:=(x.1.take na,x.1.drop na,mG v,kV v)
def qx(D:Nat)(wd:Rat)(x:ga)(v:Bool×Nat×Nat):Bool :=
 (decide (mG v=3\/mG v=4)&&(decide (wd=0)||!tC x.1 wd))||decide (D<=x.2.1)
def qn(D W na:Nat)(wd:Rat)(lk:mC):RunT->RunT
 |([],n,cs)=>([],n,cs)
 |(x::st,n,cs) =>
  if W<=n then(st,n,cs++[rq na x (false,0,0)])
  else if (lk (x.1.take na) (x.1.drop na)).1 then(st,n+1,cs)
  else if qx D wd x (lk (x.1.take na) (x.1.drop na))then(st,n+1,cs++[rq na x (lk (x.1.take na) (x.1.drop na))])
  else(nJ x::n5 x::st,n+1,cs)
def ah2(D W na:Nat)(wd:Rat)(lk:mC):Nat->RunT->RunT
 |0,s=>s
 |k+1,s=>ah2 D W na wd lk k (qn D W na wd lk s)
def xk(D:Nat)(x:ga):Nat:=2*2^(D-x.2.1)-1
def im(D:Nat)(st:List ga):Nat:=(st.map (xk D)).sum
theorem afJ(D:Nat)(x:ga):1<=xk D x:=by
 unfold xk;have:=apj (n:=D-x.2.1);omega
theorem azk{D:Nat}{x:ga}{s s':Sp}(h:x.2.1<D):xk D (aex x s)+xk D (aex x s')<xk D x:=by
 simp only[xk,aex];have h1:=apj (n:=D-(x.2.1+1));have h2:2^(D-x.2.1)=2*2^(D-(x.2.1+1)):=by
  rw[show D-x.2.1=(D-(x.2.1+1))+1 by omega,kC,ie]
 omega
theorem aOy{D:Nat}{wd:Rat}{x:ga}{v:Bool×Nat×Nat}(h:qx D wd x v=false):x.2.1<D:=by
 unfold qx at h;simp only[Bool.or_eq_false_iff,decide_eq_false_iff_not]at h;omega
theorem aoV{D W na:Nat}{wd:Rat}{lk:mC}{x:ga}{st:List ga}{n:Nat}{cs:List lW}:im D (qn D W na wd lk (x::st,n,cs)).1<im D (x::st):=by
 have hw:=afJ D x;have hmu:im D (x::st)=xk D x+im D st:=by simp[im]
 rw[qn];split
 ·show im D st<_;omega
 split
 ·show im D st<_;omega
 split
 ·show im D st<_;omega
 rename_i h;have hd:=aOy mA;have:=azk (x:=x) (s:=oY (x.1.getD (gG x) default)) (s':=qA (x.1.getD (gG x) default)) hd;have e:im D (nJ x::n5 x::st)=xk D (nJ x)+(xk D (n5 x)+im D st):=by simp[im]
 show im D (nJ x::n5 x::st)<_;rw[e,hmu];unfold nJ n5;omega
theorem ay8{D W na:Nat}{wd:Rat}{lk:mC}{n:Nat}{cs:List lW}:∀k,ah2 D W na wd lk k ([],n,cs)=([],n,cs)
 |0=>rfl
 |k+1=>by rw[ah2,qn,ay8 k]
def abU(D W na:Nat)(wd:Rat)(lk:mC)(s R:RunT):Prop:=∃k,im D s.1<=k/\ah2 D W na wd lk k s=R
theorem abU.step{D W na:Nat}{wd:Rat}{lk:mC}{x:ga}{st:List ga}{n:Nat}{cs:List lW}{R:RunT}(h:abU D W na wd lk (x::st,n,cs) R):
  abU D W na wd lk (qn D W na wd lk (x::st,n,cs)) R:=by
 obtain⟨k,h1,h2⟩:=h;have hmu:im D (x::st)=xk D x+im D st:=by simp[im]
 have hw:=afJ D x
 match k,h1,h2 with
 |0,h1,_=>exact absurd (show im D (x::st)<=0 from h1) J
 |k+1,h1,h2 =>
  have:=aoV (D:=D) (W:=W) (na:=na) (wd:=wd) (lk:=lk) (x:=x) (st:=st) (n:=n) (cs:=cs);exact⟨k,by have:im D (x::st)<=k+1:=h1;omega,h2⟩
theorem abU.nil{D W na:Nat}{wd:Rat}{lk:mC}{n:Nat}{cs:List lW}{R:RunT}(h:abU D W na wd lk ([],n,cs) R):R=([],n,cs):=by
 obtain⟨k,_,h2⟩:=h;rw[ay8]at h2;exact h2.symm
def yk(D W na:Nat)(wd:Rat)(lk:mC)(s:RunT):RunT:=ah2 D W na wd lk (im D s.1) s
theorem ahR(D W na:Nat)(wd:Rat)(lk:mC)(s:RunT):abU D W na wd lk s (yk D W na wd lk s):=⟨_,bF _,rfl⟩
theorem ajP{D W na:Nat}{wd:Rat}{lk:mC}(I:RunT->Prop)(hI:∀x st n cs,I (x::st,n,cs)->I (qn D W na wd lk (x::st,n,cs))):
  ∀(m:Nat) {s R:RunT},im D s.1<=m->I s->abU D W na wd lk s R->I R/\R.1=[]
 |m,([],n,cs),R,_,hs,h=>by rw[h.nil];exact⟨hs,rfl⟩
 |0,(x::st,n,cs),R,hm,_,_=>by
   have hmu:im D (x::st)=xk D x+im D st:=by simp[im]
   have hw:=afJ D x;exact absurd (show im D (x::st)<=0 from hm) J
 |m+1,(x::st,n,cs),R,hm,hs,h=>by
   have:=aoV (D:=D) (W:=W) (na:=na) (wd:=wd) (lk:=lk) (x:=x) (st:=st) (n:=n) (cs:=cs);exact ajP I hI m (by have:im D (x::st)<=m+1:=hm;omega) (hI x st n cs hs) h.step
def gS(s:Rat×Rat):Rat×Rat:=(-s.2,-s.1)
def tM(p q r s:Rat×Rat):Rat×Rat:=sbS (yU p s) (yU q r)
def l6(s t:Rat×Rat):Bool:=decide (fN s.1 t.1<=gg s.2 t.2)
def meB(a b:ny):Bool:=l6 a.x b.x&&l6 a.y b.y&&l6 a.z b.z
def iN(a b c:V3):Rat:=1/cA a (iW b c)
def rK(a b c:V3):V3:=⟨(kJ (iN a b c) (iW b c)).x,(kJ (iN a b c) (iW c a)).x,(kJ (iN a b c) (iW a b)).x⟩
def sM(a b c:V3):V3:=⟨(kJ (iN a b c) (iW b c)).y,(kJ (iN a b c) (iW c a)).y,(kJ (iN a b c) (iW a b)).y⟩
def yw(a b c:V3):V3:=⟨(kJ (iN a b c) (iW b c)).z,(kJ (iN a b c) (iW c a)).z,(kJ (iN a b c) (iW a b)).z⟩
def oQ(u v:V3):V3:=⟨u.x,(kJ (-1) v).x,0⟩
def oM(u v:V3):V3:=⟨u.y,(kJ (-1) v).y,0⟩
def oD:V3:=⟨0,0,1⟩
def mh(r:V3)(l:List V3):Rat×Rat:=fj (l.map (cA r))
def ec(r:V3)(p q:List V3):Rat×Rat:=sbS (mh r p) (mh r q)
def mH(s t:Rat×Rat):Bool:=decide (cq s.1=cq s.2)&&decide (cq t.1=cq t.2)&&decide (cq s.1*cq t.1<0)
def afq(u v:V3)(pc pd:List V3):Bool:=mH (ec (rK (oQ u v) (oM u v) oD) [pc.getD 0 default] pd) (ec (rK (oQ u v) (oM u v) oD) [pc.getD (pc.length-1) default] pd)
def aqz(u v:V3)(pc pd:List V3):Bool:=mH (ec (sM (oQ u v) (oM u v) oD) pc [pd.getD 0 default]) (ec (sM (oQ u v) (oM u v) oD) pc [pd.getD (pd.length-1) default])
def qf(sc sd:ny)(u v:V3)(pc pd:List V3):Nat :=
 if ks (tM sc.x (gS sd.x) sc.y (gS sd.y)) 0 then 0 else if cA (oQ u v) (iW (oM u v) oD)=0 then 2 else if afq u v pc pd&&aqz u v pc pd then 3 else 2
def crV(u v:V3):Rat:=u.x*v.y-u.y*v.x
theorem aD7(u v:V3):cA (oQ u v) (iW (oM u v) oD)=-crV u v:=by
 simp only[cA,iW,oQ,oM,oD,kJ,crV];grind
theorem asD(u v:V3)(q:V3):cA (rK (oQ u v) (oM u v) oD) q=iN (oQ u v) (oM u v) oD*(-v.y*q.x+v.x*q.y):=by
 simp only[cA,iW,oQ,oM,oD,kJ,rK];grind
theorem aI8(u v:V3)(q:V3):cA (sM (oQ u v) (oM u v) oD) q=iN (oQ u v) (oM u v) oD*(-u.y*q.x+u.x*q.y):=by
 simp only[cA,iW,oQ,oM,oD,kJ,sM];grind
section
variable {u v:V3} (h:crV u v≠0)
include h
end
def oz(n:Nat)(q:Rat):Prop:=∃z:Int,q=(z:Rat)/((2^n:Nat):Int)
theorem two_pos(n:Nat):(0:Rat)<((2^n:Nat):Int):=by
 have:=apj (n:=n);exact aaw.2 J
theorem asa(n:Nat):(((2^(n+1):Nat):Int):Rat)=((2^n:Nat):Int)*2:=by
 rw[kC];push_cast;rfl
theorem oz.mul{n:Nat}{q:Rat}(h:oz n q):∃z:Int,q*((2^n:Nat):Int)=z:=by
 obtain⟨z,rfl⟩:=h;exact⟨z,tV (by have:=two_pos n;grind)⟩
theorem oz.of{n:Nat}{q:Rat}{z:Int}(h:q*((2^n:Nat):Int)=z):oz n q:=⟨z,by
 have:=two_pos n;rw[<-h,acd ba]⟩
theorem oz.succ{n:Nat}{q:Rat}(h:oz n q):oz (n+1) q:=by
 obtain⟨z,e⟩:=h.mul;refine oz.of (z:=z*2) ?_;rw[asa,<-xi,e];push_cast;rfl
theorem oz.md{n:Nat}{p q:Rat}(hp:oz n p)(hq:oz n q):oz (n+1) ((p+q)/2):=by
 obtain⟨z,e⟩:=hp.mul;obtain⟨y,f⟩:=hq.mul;refine oz.of (z:=z+y) ?_;rw[asa];have h2:(p+q)/2*2=p+q:=tV aj;have:(p+q)/2*(((2^n:Nat):Int)*2:Rat)=(p+q)/2*2*((2^n:Nat):Int):=ba;rw[this,h2];push_cast;push_cast at e f;rw[<-e,<-f];grind
theorem aCT(z:Int):oz 0 (z:Rat):=⟨z,by
 have:(((2^0:Nat):Int):Rat)=1:=rfl;rw[this];grind⟩
theorem oz.le{n m:Nat}{q:Rat}(h:oz n q)(hm:n<=m):oz m q:=by
 induction m with
 |zero =>
      obtain rfl:n=0:=J;exact h
 |succ m ih =>
  rcases Nat.lt_or_ge n (m+1)with g|g
  ·exact(ih J).succ
  obtain rfl:n=m+1:=J;exact h
theorem oz.rl{n:Nat}{q:Rat}(h:oz n q)(hn:n<=24)(h1:-64<=q)(h2:q<=64):Go.Lg.rl q<=1:=by
 obtain⟨z,e⟩:=h.mul;have hp:=two_pos n;have sE:2^n<=2^24:=mN aj hn;have ri:z<=64*((2^n:Nat):Int):=by
  have:(z:Rat)<=((64*((2^n:Nat):Int):Int):Rat):=by
   rw[<-e];rw[tx];exact asn h2 (kL hp)
  exact awZ.1 this
 have yG:-64*((2^n:Nat):Int)<=z:=by
  have:((-64*((2^n:Nat):Int):Int):Rat)<=(z:Rat):=by
   rw[<-e];rw[tx];exact asn h1 (kL hp)
  exact awZ.1 this
 have:q=(z:Rat)/((2^n:Nat):Int):=by rw[<-e,acd ba]
 rw[this];exact acO J J
def uq:Sp:=(0,1)
section
variable {a u p v:V3}
end
def mF(x:ga):LV:=.agg [.list 6 (x.1.map ar),ah x.2.1,.list 1 (x.2.2.map eE)]
def fv(c:lW):LV:=.agg [.list 6 (c.1.map ar),.list 6 (c.2.1.map ar),ah c.2.2.1,ah c.2.2.2]
def vdL(v:Bool×Nat×Nat):LV:=.agg [.v (.bool v.1),ah v.2.1,ah v.2.2]
def prW(d w:Nat)(wd:Rat):LV:=.agg [ah d,ah w,ae wd]
theorem aaA(x:ga):(mF x).pure=true:=by simp[mF,LV.pure,aO,bm bj,bm jH]
theorem aeE(c:lW):(fv c).pure=true:=by simp[fv,LV.pure,aO,bm bj]
theorem aFt(v:Bool×Nat×Nat):(vdL v).pure=true:=by simp[vdL,LV.pure,aO]
theorem aAc(d w:Nat)(wd:Rat):(prW d w wd).pure=true:=by simp[prW,LV.pure,aO,ao.pure]
theorem aKY(x:ga):(mF x).aq=3:=rfl
theorem aod(c:lW):(fv c).aq=4:=rfl
theorem agd:jF mF 3 true:=⟨aKY,fun _=>rfl,aaA⟩
theorem abT:jF fv 4 true:=⟨aod,fun _=>rfl,aeE⟩
theorem ab8(l:List lW):aO (l.map fv)=true:=bm abT l
structure afh (P:Program) (f:Nat) (cap:List LV) (D na n:Nat) (lk:mC) (I:ga->Prop):Prop where
 len:∀x,I x->x.1.length=n/\x.2.2.length=n
 tm:∀x,I x->∀t∈x.2.2,0<=t/\t<=1000
 dep:∀x,I x->x.2.1<=D
 sp:∀x,I x->∀s∈x.1,cW 1000 s/\s.1<=s.2
 half:∀x,I x->x.2.1<D->I (nJ x)/\I (n5 x)
 look:∀x,I x->an P f ([.list 6 ((x.1.take na).map ar),.list 6 ((x.1.drop na).map ar)]++cap) (vdL (lk (x.1.take na) (x.1.drop na)))
 kd:∀x,I x->(lk (x.1.take na) (x.1.drop na)).2.1<=4/\(lk (x.1.take na) (x.1.drop na)).2.2<=4
def mX(n:Nat)(s:Sp):Prop:=oz n s.1/\oz n s.2/\0<=s.1/\s.1<s.2/\s.2<=1
def nV(D:Nat)(x:ga):Prop:=∃(s t:Sp) (i j:Int),x.1=[s,t]/\x.2.2=[i,j]/\(0<=i/\i<=x.2.1/\0<=j/\j<=x.2.1)/\x.2.1<=D/\mX x.2.1 s/\mX x.2.1 t
theorem mX.succ{n:Nat}{s:Sp}(h:mX n s):mX (n+1) s:=⟨h.1.succ,h.2.1.succ,h.2.2⟩
theorem mX.half{n:Nat}{s:Sp}(h:mX n s):mX (n+1) (oY s)/\mX (n+1) (qA s):=by
 obtain⟨h1,h2,h3,h4,h5⟩:=h;have hm:=h1.md h2;have e:(s.1+s.2)/2*2=s.1+s.2:=tV aj;unfold oY qA jO;exact⟨⟨h1.succ,hm,h3,by show s.1<(s.1+s.2)/2;grind,by show (s.1+s.2)/2<=1;grind⟩,⟨hm,h2.succ,by show 0<=(s.1+s.2)/2;grind,by show (s.1+s.2)/2<s.2;grind,h5⟩⟩
theorem mX.rl{n:Nat}{s:Sp}(h:mX n s)(hn:n<=24):Go.Lg.rl s.1<=1/\Go.Lg.rl s.2<=1:=by
 obtain⟨h1,h2,h3,h4,h5⟩:=h;exact⟨h1.rl hn ba ba,h2.rl hn ba ba⟩
theorem abh(bs:List Nat)(c:Nat)(y:aV)(l:List (Nat×aV)):aaI bs ((c,y)::l)=(c,⟨y.sz,y.vals,y.mt&&!bs.contains c⟩)::aaI bs l:=rfl
theorem aHf{l:List (Rat×Rat)}{k:Nat}(h:k<l.length):l.take k++[l.getD k default]=l.take (k+1):=by
 rw[te,ck h,bq,ck h];rfl
theorem abS{l:List (Rat×Rat)}{k:Nat}(h:k<l.length):l.getD k default∈l:=by
 rw[bq,ck h];exact qX h
theorem aqQ:dM ai 134 (mF ([],0,[])):=⟨Tryz.t134,_,by kernel_rfl,rfl,rfl,fun Z μ w=>by
 show cP Z μ w _ _;exact⟨_,_,rfl,rfl,adr 6,_,_,rfl,rfl,⟨rfl,rfl⟩,_,_,rfl,rfl,adr 1,rfl⟩⟩
instance:EC ai 134 mF 3 true ([],0,[]):=⟨agd,aqQ,aau⟩
theorem acw:dM ai 53 (fv ([],[],0,0)):=⟨Tryz.t53,_,by kernel_rfl,rfl,rfl,fun Z μ w=>by
 show cP Z μ w _ _;exact⟨_,_,rfl,rfl,adr 6,_,_,rfl,rfl,adr 6,_,_,rfl,rfl,⟨rfl,rfl⟩,_,_,rfl,rfl,⟨rfl,rfl⟩,rfl⟩⟩
theorem aD9:ae (1/2)=.agg [.v (.bool false),bu 1,.list 1 ([2].map bR)]:=by
 rw[show (1/2:Rat)=qv false 1 2 from by decide +kernel,agT false aj aj];rfl
theorem akM:(default:Int)=0:=rfl
theorem ayA(a b:Rat):(a+b)*(1/2)=(a+b)/2:=ba
namespace azZ
theorem aJ{p q:Prop}(k:q)(e:p=q:=by simp only[bD,bo,bp,bh,w9,abh,dD,du,dC,reduceIte,if_true,if_false,dW,LV.kill,bC];exact rfl):p:=e.mpr k
end azZ
open azZ in
theorem aHD(a b:Rat)(h:rl a+rl b<=100000):an ai 182 [ae a,ae b] (ae ((a+b)/2)):=by
 have hz:=kO a b;have hh:rl (1/2)=1:=aG;have hM:=jE (a+b) (1/2) J;rw[ayA]at hM;refine aL Tryz.func182 ?_;refine aN (lf a b J) ?_;refine cp am0 (apB) ?_;refine bc ?_
 try refine aJ ?_
 refine afr [9] rfl rfl (.cons (.pure (ao.pure _)) (.cons (show dt _ _ (ae (1/2)) from aD9▸.agg (.cons (.pure rfl) (.cons (.pure rfl) (.cons (da iE rfl rfl rfl) .nil)))) .nil)) hM ?_;refine aK ?_;exact fO
open fc in
theorem aCE(s:Rat×Rat)(h:rl s.1+rl s.2<=100000):an ai 88 [ar s] (ae (jO s)):=by
 refine aL Tryz.func88 ?_;refine aN (aHD s.1 s.2 h) ?_;refine aK ?_;exact fO
open fc in
theorem aLu(s:Rat×Rat)(R:Nat)(hR:R<=10000)(hb:cW R s)(hle:s.1<=s.2):an ai 156 [ar s] (.aY [ar (oY s),ar (qA s)]):=by
 obtain⟨a1,a2⟩:=hb;have hM:=aCE s J;have ri:=kO s.1 s.2;have yG:=pv (s.1+s.2) 2;have hh:rl 2=1:=aG;have em:(s.1+s.2)/2*2=s.1+s.2:=tV aj;have hmr:rl (jO s)<=2*R+2:=by unfold jO;omega
 have lr:s.1<=jO s:=by unfold jO;grind
 have oK:jO s<=s.2:=by unfold jO;grind
 have hO1:=ad4 s.1 (jO s) J;have hO2:=ad4 (jO s) s.2 J;rw[show (gg s.1 (jO s),fN s.1 (jO s))=oY s from by unfold gg fN oY;rw[if_neg ba];split<;>(first|rfl|(congr 1;grind))]at hO1;rw[show (gg (jO s) s.2,fN (jO s) s.2)=qA s from by unfold gg fN qA;rw[if_neg ba];split<;>(first|rfl|(congr 1;grind))]at hO2;refine aL Tryz.func156 (ht:=(iz (bj.pure _) (bj.pure _))) ?_;refine bf (hM) ?_;refine aN (hO1) ?_;refine aN (hO2) ?_;refine aW ?_;exact aes [] rfl rfl rfl (bj.aq _) (aca _) lF (.pure (bj.pure _)) rfl rfl (bj.aq _) (aca _) lF (.pure (bj.pure _))
namespace azY
theorem aJ{p q:Prop}(k:q)(e:p=q:=by simp only[bD,bo,bp,bh,fg,fw,dO bj,cC,jt,dR,fX,fD,gy,gU,ey,dD,du,dC,reduceIte,if_true,if_false,dW,LV.kill,bC];exact rfl):p:=e.mpr k
end azY
open azY in
theorem awD(l:List (Rat×Rat))(h0:0<l.length)(hl:l.length<=1000)(hb:∀s∈l,cW 1000000 s/\s.1<=s.2):mW ai 70 [.list 6 (l.map ar)] (.ref 1 6 0 l.length) [⟨6,l.map ar,true⟩]:=by
 refine zi Tryz.func70 ?_;have fg:True:=trivial;have fw:True:=trivial;refine lV ?_;refine iS (au.own (t:=3) 19 6 rfl rfl) ?_;refine dy (fun(k:Nat) L=>(mS L [(19,⟨6,(l.take k).map ar,true⟩)] [(8,ah k),(7,ah l.length),(6,.list 6 (l.map ar)),(3,.ref 19 6 0 k)])) (fun k=>k<=l.length) (fun k=>l.length-k) 0 (bW _) ?_;rintro k L1 hk;refine a6 ?_;refine aD rfl ?_ ?_<;>intro sw h9
 ·have kK:k<l.length:=J;obtain⟨⟨mb,yE⟩,hs3⟩:=hb _ (abS kK);have fg:=aHf kK;have fw:((l.take k).map ar).take k=(l.take k).map ar:=cy wB;have hSO:an ai 73 [ae (l.getD k default).1,ae (l.getD k default).2] (ar (l.getD k default)):=by
   have:=ad4 (l.getD k default).1 (l.getD k default).2 J;have e1x:gg (l.getD k default).1 (l.getD k default).2=(l.getD k default).1:=by unfold gg;split<;>grind
   have e2x:fN (l.getD k default).1 (l.getD k default).2=(l.getD k default).2:=by unfold fN;split<;>grind
   rw[e1x,e2x]at this;exact this
  refine aN (hSO) ?_;refine bn ?_;refine cj rfl (.eU (d:=19) (news:=[ar (l.getD k default)]) rfl rfl rfl rfl aQ (.inl rfl) aj nF nF yN (by rw[bj.isAgg];exact lF) cs B60 (.inl ⟨18,0,_,rfl,by decide,rfl,rfl,by simp,rfl,by simp[aO,bj.pure]⟩) aQ aQ aj) ?_;refine aK ?_;refine cO ((au.kill _ 5).trans (au.kill _ 18)) ?_;refine eP ?_;exact ji (k+1) J
 obtain rfl:k=l.length:=J;have hE:l.take l.length=l:=List.take_length;refine bG ?_;simp only[hE];exact age rfl rfl (bm bj _)
theorem am6(l:List (Rat×Rat))(h0:0<l.length)(hl:l.length<=1000)(hb:∀s∈l,cW 1000000 s/\s.1<=s.2):an ai 70 [.list 6 (l.map ar)] (.list 6 (l.map ar)):=apM (awD l h0 hl hb) (bm bj _) aE
namespace aAw
theorem aJ{p q:Prop}(k:q)(e:p=q:=by simp only[bD,bo,bp,bh,mF,akM,Int.toNat_natCast,Nat.zero_add,yB,emt,dO bj,dO jH,cC,gU,fD,dD,du,dC,reduceIte,if_true,if_false,dW,LV.kill,bC];exact rfl):p:=e.mpr k
end aAw
open aAw in
theorem aCa(x:ga)(n D:Nat)(hn:x.1.length=n)(ht:x.2.2.length=n)(h0:0<n)(hn9:n<=10)(hD:x.2.1<=D)(hD9:D<=1000)(htm:∀t∈x.2.2,0<=t/\t<=1000)(s:Rat×Rat):an ai 155 [ar s,.cx (.agg [.list 6 (x.1.map ar),ah x.2.1,.list 1 (x.2.2.map eE)]),.cx (ah (gG x))] (mF (aex x s)):=by
 have hbx:LV.pure (.agg [.list 6 (x.1.map ar),ah x.2.1,.list 1 (x.2.2.map eE)])=true:=aaA x;have hpS:=bm bj x.1;have hpT:=bm jH x.2.2;have cJ:gG x<n:=by
  have:=ad1 (t:=x.2.2) x.2.2.length (bF _) J;unfold gG;omega
 have htk:=htm _ (show x.2.2.getD (gG x) 0∈x.2.2 by rw[bq,ck J];exact qX J);have yB:(x.1.map ar).set (gG x) (ar s)=(x.1.set (gG x) s).map ar:=ahW.symm;have emt:(x.2.2.map eE).set (gG x) (eE (x.2.2.getD (gG x) 0+1))=(x.2.2.set (gG x) (x.2.2.getD (gG x) 0+1)).map eE:=ahW.symm;refine aL Tryz.func155 (ht:=(fun g=>LV.db g _ (aaA _))) ?_;have yB:True:=trivial;have emt:True:=trivial;refine bK ?_;refine iZ (fun L=>∃  (L1:St),(True)/\L=(mS L1 [(3,⟨6,[ar s],true⟩),(4,⟨3,[.agg [.v (.slice none 0 0),.v (.int .i64 0),.v (.slice none 0 0)]],true⟩),(5,⟨3,[.agg [.ref 6 6 0 x.1.length,ah (x.2.1+1),.ref 13 1 0 x.2.2.length]],true⟩),(6,⟨6,x.1.map ar,true⟩),(13,⟨1,x.2.2.map eE,true⟩)] [(5,.aB 5 3 0 0),(4,.aB 4 3 0 0),(3,.aB 3 6 0 0),(2,.cx (ah (gG x))),(1,.cx (.agg [.list 6 (x.1.map ar),ah x.2.1,.list 1 (x.2.2.map eE)]))])) ?_ ?_
 ·refine ack ?_;refine fx 1 rfl rfl aG (.pure l5) gu fy ?_;refine fx 2 rfl rfl aG (.pure (.kQ rfl hpS rfl rfl)) gu fy ?_;refine fx 4 rfl rfl aG (.pure l5) gu fy ?_;refine fx 5 rfl rfl aG (.pure gJ) gu fy ?_;refine fx 6 rfl rfl aG (.pure (.bin rfl rfl (agf J))) gu fy ?_;refine fx 8 rfl rfl aG (.pure l5) gu fy ?_;refine fx 9 rfl rfl aG (.pure (.kQ rfl hpT rfl rfl)) gu fy ?_
  repeat' first
   |(refine pb aG ?_;refine bn ?_;exact⟨_,trivial,((aX (aX (aX (aX (aX (jB vY) cl) cl) cl) cl) cl)).symm⟩)
   |refine af2 0 7 12 _ _ _ aG rfl rfl rfl ?_ ?_ ?_
   |refine af2 3 7 12 _ _ _ aG rfl rfl rfl ?_ ?_ ?_
   |refine jy 7 12 _ _ aG rfl rfl ?_ ?_
   |refine jy 10 12 _ _ aG rfl rfl ?_ ?_
   |refine jy 11 12 _ _ aG rfl rfl ?_ ?_
   |refine di 12 _ aG rfl ?_
   |refine di 13 _ aG rfl ?_
   |refine di 11 _ aG rfl ?_
   |refine di 10 _ aG rfl ?_
   |refine di 7 _ aG rfl ?_
   |refine jy 3 12 _ _ aG rfl rfl ?_ ?_
   |refine di 3 _ aG rfl ?_
   |refine jy 3 7 _ _ aG rfl rfl ?_ ?_
   |refine jy 0 12 _ _ aG rfl rfl ?_ ?_
   |refine di 0 _ aG rfl ?_
   |refine jy 0 7 _ _ aG rfl rfl ?_ ?_
   |(refine cj rfl (.eU (d:=6) (news:=x.1.map ar) rfl rfl rfl rfl aE (.inl rfl) aj nF nF yN (by rw[bj.isAgg];exact lF) cs B60 (.inr (.inl rfl)) aQ aQ aj) ?_;refine iy ?_)
   |(refine cj rfl (.eU (d:=13) (news:=x.2.2.map eE) rfl rfl rfl rfl aE (.inl rfl) aj aaU aaU (show dM _ _ (eE 0) from Z3) T3 rfl B3 (.inr (.inl rfl)) aQ aQ aj) ?_;refine iy ?_)
   |(refine bn ?_;refine iy ?_)
   |fail
 rintro _ ⟨LR1,-,rfl⟩;refine uV ?_
 try refine aJ ?_
 refine al rfl acz ?_;refine bN ?_;exact iJ [6,13] rfl rfl rfl cs (cU cs rfl) aau (.agg (.cons (da (l:=x.1.set (gG x) s) bj rfl rfl aE) (.cons (.pure rfl) (.cons (da (l:=x.2.2.set (gG x) (x.2.2.getD (gG x) 0+1)) jH rfl rfl aE) .nil))))
namespace aCM
theorem aJ{p q:Prop}(k:q)(e:p=q:=by simp only[bD,bo,bp,bh,ht,mF,akM,Int.toNat_natCast,Nat.zero_add,els,w9,abh,cC,dD,du,dC,reduceIte,if_true,if_false,dW,LV.kill,bC];exact rfl):p:=e.mpr k
end aCM
open aCM in
theorem aJl(x:ga)(n D:Nat)(hn:x.1.length=n)(ht:x.2.2.length=n)(h0:0<n)(hn9:n<=10)(hD:x.2.1<=D)(hD9:D<=1000)(htm:∀t∈x.2.2,0<=t/\t<=1000)(R:Nat)(hR:R<=10000)(hs:∀s∈x.1,cW R s/\s.1<=s.2):an ai 72 [.agg [.list 6 (x.1.map ar),ah x.2.1,.list 1 (x.2.2.map eE)]] (.aY [mF (nJ x),mF (n5 x)]):=by
 have hbx:LV.pure (.agg [.list 6 (x.1.map ar),ah x.2.1,.list 1 (x.2.2.map eE)])=true:=aaA x;have hpS:=bm bj x.1;have hpT:=bm jH x.2.2;have cJ:gG x<n:=by
  have:=ad1 (t:=x.2.2) x.2.2.length (bF _) J;unfold gG;omega
 have htk:=htm _ (show x.2.2.getD (gG x) 0∈x.2.2 by rw[bq,ck J];exact qX J);have hsk:=hs (x.1.getD (gG x) default) (by rw[bq,ck J];exact qX J);have hH:=aLu (x.1.getD (gG x) default) R hR hsk.1 hsk.2;have dZ:aO ([.cx (.agg [.list 6 (x.1.map ar),ah x.2.1,.list 1 (x.2.2.map eE)]),.cx (ah (gG x))]:List LV)=true:=by simp[aO,LV.pure,bm bj,bm jH]
 have hcs:∀y∈([.cx (.agg [.list 6 (x.1.map ar),ah x.2.1,.list 1 (x.2.2.map eE)]),.cx (ah (gG x))]:List LV),y.aq=1/\y.isAgg=false:=fun y hy=>by
  simp only[dS,jR,or_false]at hy;rcases hy with e|e<;>rw[e]<;>exact⟨rfl,rfl⟩
 have hA:=aCa x n D hn ht h0 hn9 hD hD9 htm (oY (x.1.getD (gG x) default));have hB:=aCa x n D hn ht h0 hn9 hD hD9 htm (qA (x.1.getD (gG x) default));refine aL Tryz.func72 (ht:=(iz (aaA _) (aaA _))) ?_;have els:True:=trivial;refine abE ?_;refine dy (fun(i:Nat) L=>(mS L [(1,⟨3,[.agg [.list 6 (x.1.map ar),ah x.2.1,.list 1 (x.2.2.map eE)]],true⟩),(2,⟨3,[.agg [.v (.slice none 0 0),.v (.int .i64 0),.v (.slice none 0 0)]],true⟩),(3,⟨3,[.agg [.v (.slice none 0 0),.v (.int .i64 0),.v (.slice none 0 0)]],true⟩),(4,⟨1,[ah (et x.2.2 i)],true⟩)] [(13,ah i),(12,ah n),(11,.list 1 (x.2.2.map eE)),(4,.aB 4 1 0 0),(3,.aB 3 3 0 0),(2,.aB 2 3 0 0),(1,.aB 1 3 0 0)])) (fun i=>i<=n) (fun i=>n-i) 0 (bW _) ?_;rintro i L1 hi;refine a6 ?_;refine aD rfl ?_ ?_<;>intro pU jI
 ·have cM:i<n:=J;have hli:=ad1 (t:=x.2.2) i J J;refine abi ?_;refine aD rfl ?_ ?_<;>intro um rT
  ·have els:et x.2.2 (i+1)=i:=if_pos rT;refine bK ?_;refine eP ?_;exact gM
  have els:et x.2.2 (i+1)=et x.2.2 i:=if_neg rT;refine aK ?_;refine eP ?_;exact gM
 obtain rfl:n=i:=J;have hE9:et x.2.2 n=gG x:=by unfold gG;rw[ht]
 simp only[hE9];refine bK ?_;refine qk [1,4] rfl rfl (.mk (caps:=([.cx (.agg [.list 6 (x.1.map ar),ah x.2.1,.list 1 (x.2.2.map eE)]),.cx (ah (gG x))]:List LV)) (.cons (.aB rfl rfl rfl cs (cU cs rfl) hbx rfl) (.cons (.aB (n:=1) (ag:=false) rfl rfl rfl rfl rfl rfl rfl) .nil)) hcs) rfl ?_;refine bf (hH) ?_;refine dj ?_;refine qk [] rfl rfl (.dT (f:=155) (cap:=([.cx (.agg [.list 6 (x.1.map ar),ah x.2.1,.list 1 (x.2.2.map eE)]),.cx (ah (gG x))]:List LV)) (args:=[ar (oY (x.1.getD (gG x) default))]) rfl (.cons (.pure (bj.pure _)) .nil) ⟨dZ,hcs⟩ hA.1 aj (fun _ h=>by cases h)) (hA.2 _) ?_;refine bc ?_;refine qk [] rfl rfl (.dT (f:=155) (cap:=([.cx (.agg [.list 6 (x.1.map ar),ah x.2.1,.list 1 (x.2.2.map eE)]),.cx (ah (gG x))]:List LV)) (args:=[ar (qA (x.1.getD (gG x) default))]) rfl (.cons (.pure (bj.pure _)) .nil) ⟨dZ,hcs⟩ hB.1 aj (fun _ h=>by cases h)) (hB.2 _) ?_;refine aW ?_;exact aes [] rfl rfl rfl cs (cU cs rfl) aau (.pure (aaA _)) rfl rfl cs (cU cs rfl) aau (.pure (aaA _))
theorem aOG(a b:Rat):ar (a,b)=.agg [ae a,ae b]:=by unfold ar;rfl
theorem azL{R:Nat}{s:Rat×Rat}(h:cW R s):cW R (gS s):=⟨by show rl (-s.2)<=R;rw[aaO];exact h.2,by show rl (-s.1)<=R;rw[aaO];exact h.1⟩
theorem awW{R:Nat}{p q r s:Rat×Rat}(hp:cW R p)(hq:cW R q)(hr:cW R r)(hs:cW R s):cW (4*R+1) (tM p q r s):=(azD (adY hp hs) (adY hq hr)).le J
theorem awX{P:Program}{H:cd}{ρ:Operand->LV}{T:TypeId}(hl:mP P T [(3,true),(3,true)])(hz:dM P T (ar (0,0))):aM P H ρ (.build T #[]) (ar (0,0)):=by
 have e:[ae 0,ae 0].map lay=[(3,true),(3,true)]:=aei;rw[aOG]at hz ⊢;exact .build (zs:=[ae 0,ae 0]) (e▸hl) hz (by intro p hp;cases hp)
theorem abl{P:Program}{H:cd}{ρ:Operand->LV}{T E:TypeId}{n:Nat}{ag:Bool}{o0 o1:Operand}{z v0 v1:LV}(hT:P.underlying T=some (.array 2 E))(t:bS P E n ag)(hz:dM P T (.agg [z,z]))(zl:lay z=(n,ag))(h0:ρ o0=v0)(h1:ρ o1=v1)
  (l0:lay v0=(n,ag)) (l1:lay v1=(n,ag)) (p0:v0.pure=true) (yZ:v1.pure=true):aM P H ρ (.build T #[(0,o0),(1,o1)]) (.agg [v0,v1]):=by
 have:=aM.aci (P:=P) (H:=H) (ρ:=ρ) (zs:=[z,z]) (ps:=#[(0,o0),(1,o1)]) hT t (by simp[zl]) hz (by
  intro p hp;simp only[dS,jR,or_false]at hp;rcases hp with rfl|rfl
  ·exact⟨_,rfl,by rw[h0,l0,zl],by rw[h0];exact LV.fJ p0,by rw[h0];exact LV.fh p0⟩
  exact⟨_,rfl,by rw[h1,l1,zl],by rw[h1];exact LV.fJ yZ,by rw[h1];exact LV.fh yZ⟩)
 simpa only[kP,oC,tF,vg,h0,h1]using this
theorem lz{p:Prop}(h:p:=by first|rfl|simp[lay,LV.aq,dg,sW,ao.aq,bj.aq,ao.isAgg,bj.isAgg]):p:=h
open H0 in
theorem arY(q:Rat)(h:rl q<=274877906944):an ai 179 [ae q] (ae (-q)):=by
 refine aL Tryz.func179 ?_;refine bf (amB q J) ?_;refine bM ?_;refine dU 8 rfl ?_ ?_<;>intro nX h8
 ·refine a6 ?_;refine cj rfl (.alr rfl rfl rfl T4 (by first|exact aj8 nX|exact akZ nX)) ?_;refine bM ?_;exact fO
 refine a6 ?_;refine cj rfl (.alr rfl rfl rfl T4 (by first|exact aj8 nX|exact akZ nX)) ?_;refine bM ?_;exact fO
open fc in
theorem av5(s:Rat×Rat)(R:Nat)(hR:R<=1000000000)(hs:cW R s):an ai 85 [ar s] (ar (gS s)):=by
 obtain⟨a1,a2⟩:=hs;refine aL Tryz.func85 ?_;refine bf (arY s.2 J) ?_;refine bf (arY s.1 J) ?_;refine aW ?_;exact mL
open fc in
theorem akF(s t:Rat×Rat)(R:Nat)(hR:R<=100000000000)(hs:cW R s)(ht:cW R t)(hm:l6 s t=true):an ai 80 [ar s,ar t] (.aY [ar (fN s.1 t.1,gg s.2 t.2),bL true]):=by
 obtain⟨a1,a2⟩:=hs;obtain⟨y1,y2⟩:=ht;have hle:=of_decide_eq_true hm;have ri:rl (fN s.1 t.1)<=R:=by unfold fN;split<;>assumption
 have yG:rl (gg s.2 t.2)<=R:=by unfold gg;split<;>assumption
 have xW:¬fY (fN s.1 t.1) (gg s.2 t.2) > 0:=fun e=>by have:=qe.1 e;grind
 refine awn ?_;refine rA (b:=_) rfl (decide_eq_false xW) ?_;refine b7 ?_;exact ae2
open fc in
theorem apt(s t:Rat×Rat)(R:Nat)(hR:R<=100000000000)(hs:cW R s)(ht:cW R t)(hm:l6 s t=false):an ai 80 [ar s,ar t] (.aY [ar (0,0),bL false]):=by
 obtain⟨a1,a2⟩:=hs;obtain⟨y1,y2⟩:=ht;have hle:=of_decide_eq_false hm;have ri:rl (fN s.1 t.1)<=R:=by unfold fN;split<;>assumption
 have yG:rl (gg s.2 t.2)<=R:=by unfold gg;split<;>assumption
 have xW:fY (fN s.1 t.1) (gg s.2 t.2) > 0:=qe.2 ba;refine awn ?_;refine qO (b:=_) rfl (decide_eq_true xW) ?_;refine bc ?_;refine al rfl (awX aiO yN) ?_;refine a6 ?_;exact ae2
open oS in
theorem aHu(p q r s:Rat×Rat)(R:Nat)(hR:R<=100000000)(hp9:cW R p)(hq9:cW R q)(hr9:cW R r)(hs9:cW R s):an ai 84 [.agg [.agg [ar p,ar q],.agg [ar r,ar s]]] (ar (tM p q r s)):=by
 have m1:=adY hp9 hs9;have m2:=adY hq9 hr9;refine aL Tryz.func84 (ht:=(fun r=>LV.db r _ (bj.pure _))) ?_;refine aN (arq p s R J hp9 hs9) ?_;refine aN (arq q r R J hq9 hr9) ?_;refine cp aC (ays (yU p s) (yU q r) (R+R) J m1 m2) ?_;refine aK ?_;exact mL
open oS in
theorem aMR(a b:ny)(R:Nat)(hR:R<=100000000000)(ha:lL R a)(hb:lL R b)(iw:l6 a.x b.x=true)(iX:l6 a.y b.y=true)(fC:l6 a.z b.z=true):an ai 32 [iq a,iq b] (bL true):=by
 obtain⟨a1,a2,a3⟩:=ha;obtain⟨y1,y2,y3⟩:=hb;refine aL aj1 ?_;refine ff ?_;refine gH ?_;refine bN ?_;refine arH ?_;refine aN (akF a.y b.y R hR a2 y2 iX) ?_;refine acX ?_;refine nR ?_;refine bN ?_;refine gE 11 [9] aG ?_;refine aN (akF a.z b.z R hR a3 y3 fC) ?_;refine acX ?_;refine aK ?_;refine pa ?_;refine bN ?_;exact iB
open oS in
theorem aFL(a b:ny)(R:Nat)(hR:R<=100000000000)(ha:lL R a)(hb:lL R b)(iw:l6 a.x b.x=true)(iX:l6 a.y b.y=true)(fC:l6 a.z b.z=false):an ai 32 [iq a,iq b] (bL false):=by
 obtain⟨a1,a2,a3⟩:=ha;obtain⟨y1,y2,y3⟩:=hb;refine aL aj1 ?_;refine ff ?_;refine gH ?_;refine bN ?_;refine arH ?_;refine aN (akF a.y b.y R hR a2 y2 iX) ?_;refine acX ?_;refine nR ?_;refine bN ?_;refine gE 11 [9] aG ?_;refine aN (apt a.z b.z R hR a3 y3 fC) ?_;refine afa ?_;exact iB
open oS in
theorem aFd(a b:ny)(R:Nat)(hR:R<=100000000000)(ha:lL R a)(hb:lL R b)(iw:l6 a.x b.x=true)(iX:l6 a.y b.y=false):an ai 32 [iq a,iq b] (bL false):=by
 obtain⟨a1,a2,a3⟩:=ha;obtain⟨y1,y2,y3⟩:=hb;refine aL aj1 ?_;refine ff ?_;refine gH ?_;refine bN ?_;refine arH ?_;refine aN (apt a.y b.y R hR a2 y2 iX) ?_;refine afa ?_;exact iB
open oS in
theorem aOw(a b:ny)(R:Nat)(hR:R<=100000000000)(ha:lL R a)(hb:lL R b)(iw:l6 a.x b.x=false):an ai 32 [iq a,iq b] (bL false):=by
 obtain⟨a1,a2,a3⟩:=ha;obtain⟨y1,y2,y3⟩:=hb;refine aL aj1 ?_;refine ff ?_;refine gH ?_;refine bN ?_;refine gE 11 [9] aG ?_;refine aN (apt a.x b.x R hR a1 y1 iw) ?_;refine afa ?_;exact iB
theorem aEW(a b:ny)(R:Nat)(hR:R<=100000000000)(ha:lL R a)(hb:lL R b):an ai 32 [iq a,iq b] (bL (meB a b)):=by
 unfold meB
 cases h0:l6 a.x b.x with
 |false=>exact aOw a b R hR ha hb h0
 |true =>
  cases h1:l6 a.y b.y with
  |false=>exact aFd a b R hR ha hb h0 h1
  |true =>
   cases h2:l6 a.z b.z with
   |false=>exact aFL a b R hR ha hb h0 h1 h2
   |true=>exact aMR a b R hR ha hb h0 h1 h2
open fc in
theorem aOf(s:Rat×Rat)(h1:rl s.1<=200000000000)(h2:rl s.2<=200000000000):an ai 247 [ar s] (.aY [iL (if cq s.1=cq s.2 then cq s.1 else 0),bL (decide (cq s.1=cq s.2))]):=by
 refine aL Tryz.func247 (ht:=(iz rfl rfl)) ?_;refine bN ?_;refine cp cr (wF _ J) ?_;refine bc ?_;refine cp cr (wF _ J) ?_;refine bG ?_;refine aD rfl ?_ ?_<;>intro pU jI
 ·refine bH ?_;rw[if_neg jI,decide_eq_false jI];exact wc
 refine b7 ?_;have ayh:cq s.1=cq s.2:=by simpa using jI
 rw[if_pos ayh,decide_eq_true ayh];exact wc
namespace azK
theorem aJ{p q:Prop}(k:q)(e:p=q:=by simp only[bD,bo,bp,bh,fw,fg,dO cu,cC,jt,dR,fX,fD,gy,gU,ey,dD,du,dC,reduceIte,if_true,if_false,dW,LV.kill,bC];exact rfl):p:=e.mpr k
end azK
open azK in
theorem aBP(po:List aF)(h0:0<po.length)(hl:po.length<=1000):an ai 93 [.list 12 (po.map aA)] (.list 9 ((po.map (·.p)).map aR)):=by
 refine aL Tryz.func93 (ht:=(fun g=>LV.db g _ (eY cu _ _))) ?_;have fw:True:=trivial;have fg:True:=trivial;refine lV ?_;refine iS (au.own (t:=3) 16 9 rfl rfl) ?_;refine dy (fun(j:Nat) L=>(mS L [(16,⟨9,((po.map (·.p)).take j).map aR,true⟩)] [(8,ah j),(7,ah po.length),(6,.list 12 (po.map aA)),(3,.ref 16 9 0 j)])) (fun j=>j<=po.length) (fun j=>po.length-j) 0 (bW _) ?_;rintro j L1 hj;refine a6 ?_;refine aD rfl ?_ ?_<;>intro sw h9
 ·have iH:j<po.length:=J;have fg:(po.map (·.p)).take j++[(po.getD j default).p]=(po.map (·.p)).take (j+1):=yO (fun q:aF=>q.p) po iH;have fw:(((po.map (·.p)).take j).map aR).take j=((po.map (·.p)).take j).map aR:=cy aQ;refine nh ?_;refine cj rfl (.eU (d:=16) (news:=[aR (po.getD j default).p]) rfl rfl rfl rfl aQ (.inl rfl) aj wa wa Z40 jw cs B40 (.inl ⟨15,0,_,rfl,by decide,rfl,rfl,by simp,rfl,by simp[aO,cu.pure]⟩) aQ aQ aj) ?_;refine aK ?_;refine cO ((au.kill _ 5).trans (au.kill _ 15)) ?_;refine eP ?_;exact yd
 obtain rfl:j=po.length:=J;have hE:(po.map (·.p)).take po.length=(po.map (·.p)):=cy aE;refine bG ?_;simp only[hE];exact lZ [16] rfl rfl (da cu rfl rfl aE)
namespace anT
theorem aJ{p q:Prop}(k:q)(e:p=q:=by simp only[bD,bo,bp,bh,cg,tc,egd,cC,dD,du,dC,reduceIte,if_true,if_false,dW,LV.kill,bC];exact rfl):p:=e.mpr k
end anT
open anT in
theorem axO(p:V3)(l:List V3)(R:Nat)(hR:R<=90000000)(vy:cG R p)(h0:0<l.length)(hl9:l.length<=1000)(hl:∀q∈l,cG R q):an ai 248 [aR p,.list 9 (l.map aR)] (ar (mh p l)):=by
 have mi:∀q∈l,rl (cA p q)<=10*R+10:=fun q hq=>by
  obtain⟨a1,a2,a3⟩:=vy;obtain⟨y1,y2,y3⟩:=hl q hq;have e0:=cF p.x q.x;have e5:=cF p.y q.y;have e6:=cF p.z q.z;have e7:=kO (0+p.x*q.x) (p.y*q.y);have e8:=kO (0+p.x*q.x+p.y*q.y) (p.z*q.z);have e9:(0:Rat)+p.x*q.x=p.x*q.x:=ba;unfold cA;rw[e9]at e7 e8 ⊢;omega
 have hdR:∀x∈l.map (cA p),rl x<=10*R+10:=fun x hx=>by
  obtain⟨q,hq,rfl⟩:=cZ.1 hx;exact mi q hq
 refine aL Tryz.func248 (ht:=(fun r=>LV.db r _ (bj.pure _))) ?_;have tc:True:=trivial;have egd:True:=trivial;refine nn ?_;refine dy (fun(i:Nat) L=>(mS L [(2,⟨9,[aR p],true⟩),(4,⟨6,[ar (0,0)],true⟩),(5,⟨6,[ar (jm (l.map (cA p)) i)],true⟩)] [(11,ah i),(10,ah l.length),(9,.list 9 (l.map aR)),(5,.aB 5 6 0 0),(4,.aB 4 6 0 0),(2,.aB 2 9 0 0)])) (fun i=>i<=l.length) (fun i=>l.length-i) 0 (bW _) ?_;rintro i L1 hi;refine a6 ?_;refine aD rfl ?_ ?_<;>intro acI h12
 ·have cM:i<l.length:=J;have hli:=hl (l.getD i default) agY;have hdi:=mi (l.getD i default) agY;have egd:(l.map (cA p)).getD i 0=cA p (l.getD i default):=by rw[bq,jY,ck cM,bq,ck cM];rfl
  have fR:=ako (R:=10*R+10) J hdR;have tL:=agn (R:=10*R+10) J fR i;have tc:jm (l.map (cA p)) (i+1)=mz (if i=0 then((l.map (cA p)).getD i 0,(l.map (cA p)).getD i 0)else jm (l.map (cA p)) i) ((l.map (cA p)).getD i 0,(l.map (cA p)).getD i 0):=rfl;rw[egd]at tc;have hVD:=ahp p (l.getD i default) R J vy hli;refine aN (hVD) ?_;refine cp cr (vn (cA p (l.getD i default)) J) ?_;refine bN ?_;refine aD rfl ?_ ?_<;>intro acp h21
  ·have rS:i=0:=J;rw[if_pos rS]at tc;refine bH ?_
   first|refine cp aC (yT (jm (l.map (cA p)) i) (cA p (l.getD i default),cA p (l.getD i default)) (by have:=tL.1;show _+rl (cA p (l.getD i default))<=_;omega) (by have:=tL.2;show _+rl (cA p (l.getD i default))<=_;omega)) ?_|refine cp aC (yT (cA p (l.getD i default),cA p (l.getD i default)) (cA p (l.getD i default),cA p (l.getD i default)) ajU ajU) ?_
   refine aK ?_;refine cO ((au.kill _ 7).trans (au.kill _ 8)) ?_;refine eP ?_;exact gM
  have rS:¬i=0:=J;rw[if_neg rS]at tc;refine aW ?_
  first|refine cp aC (yT (jm (l.map (cA p)) i) (cA p (l.getD i default),cA p (l.getD i default)) (by have:=tL.1;show _+rl (cA p (l.getD i default))<=_;omega) (by have:=tL.2;show _+rl (cA p (l.getD i default))<=_;omega)) ?_|refine cp aC (yT (cA p (l.getD i default),cA p (l.getD i default)) (cA p (l.getD i default),cA p (l.getD i default)) ajU ajU) ?_
  refine aK ?_;refine cO ((au.kill _ 7).trans (au.kill _ 8)) ?_;refine eP ?_;exact gM
 obtain rfl:l.length=i:=J;have hE9:jm (l.map (cA p)) l.length=mh p l:=by unfold mh fj;rw[cC]
 refine bG ?_;rw[<-hE9];exact mL
theorem alW{r:V3}{R:Nat}{l:List V3}(hr:cG R r)(hl:∀q∈l,cG R q):cW (10*R+10) (mh r l):=by
 unfold mh;refine aiq J fun x hx=>?_;obtain⟨q,hq,rfl⟩:=cZ.1 hx;have:=adn hr (hl q hq);omega
theorem ayo{x y:Int}(h1:-1<=x/\x<=1)(h2:-1<=y/\y<=1):-1<=x*y/\x*y<=1:=by
 obtain⟨a,b⟩:=h1;obtain⟨c,d⟩:=h2;rcases(show x=-1\/x=0\/x=1 by omega)with rfl|rfl|rfl<;>rcases(show y=-1\/y=0\/y=1 by omega)with rfl|rfl|rfl<;>decide
theorem awK(s t:Rat×Rat):mH s t=(decide (cq s.1=cq s.2)&&(decide (cq t.1=cq t.2)&&decide ((if cq s.1=cq s.2 then cq s.1 else 0)*(if cq t.1=cq t.2 then cq t.1 else 0)<0))):=by
 unfold mH;by_cases h1:cq s.1=cq s.2
 ·by_cases h2:cq t.1=cq t.2
  ·rw[if_pos h1,if_pos h2,Bool.and_assoc]
  rw[decide_eq_false h2];simp
 rw[decide_eq_false h1];simp
theorem arj(x:Rat):-1<=cq x/\cq x<=1:=by
 unfold cq;split
 ·decide
 split<;>decide
theorem alY(s:Rat×Rat):-1<=(if cq s.1=cq s.2 then cq s.1 else 0)/\(if cq s.1=cq s.2 then cq s.1 else 0)<=1:=by
 split
 ·exact arj _
 decide
open fc in
theorem avA(r:V3)(R:Nat)(hR:R<=90000000)(hr:cG R r)(lp lq:List V3)(aho:0<lp.length)(agw:lp.length<=1000)(vA:∀q∈lp,cG R q)(agM:0<lq.length)(air:lq.length<=1000)(mc:∀q∈lq,cG R q):an ai 192 [.agg [.list 9 (lp.map aR),.list 9 (lq.map aR)],aR r] (.aY [iL (if cq (ec r lp lq).1=cq (ec r lp lq).2 then cq (ec r lp lq).1 else 0),bL (decide (cq (ec r lp lq).1=cq (ec r lp lq).2))]):=by
 have aqo:=axO r lp R hR hr aho agw vA;have alO:cW (10*R+10) (mh r lp):=alW hr vA;have anm:=axO r lq R hR hr agM air mc;have alz:cW (10*R+10) (mh r lq):=alW hr mc;have bsd:=azD alO alz;obtain⟨bs1,bs2⟩:=bsd;refine aL Tryz.func192 (ht:=(iz rfl rfl)) ?_;refine aN (aqo) ?_;refine aN (anm) ?_;refine cp aC (ays (mh r lp) (mh r lq) (10*R+10) J alO alz) ?_;refine cp cr (aOf (ec r lp lq) (aP bs1 J) (aP bs2 J)) ?_;refine bK ?_;exact wc
open fc in
theorem ay7(r:V3)(R:Nat)(hR:R<=90000000)(hr:cG R r)(lp lq lu lv:List V3)(aho:0<lp.length)(agw:lp.length<=1000)(vA:∀q∈lp,cG R q)(agM:0<lq.length)(air:lq.length<=1000)(mc:∀q∈lq,cG R q)(aEk:0<lu.length)(aLZ:lu.length<=1000)(jb:∀q∈lu,cG R q)(aGC:0<lv.length)(aE3:lv.length<=1000)(hlv:∀q∈lv,cG R q):an ai 95 [aR r,.agg [.list 9 (lp.map aR),.list 9 (lq.map aR)],.agg [.list 9 (lu.map aR),.list 9 (lv.map aR)]] (bL (mH (ec r lp lq) (ec r lu lv))):=by
 have g1:=alY (ec r lp lq);have g2:=alY (ec r lu lv);have hm:=ayo g1 g2;have hoe:=awK (ec r lp lq) (ec r lu lv);have aQU:LV.pure (.agg [.list 9 (lp.map aR),.list 9 (lq.map aR)])=true:=by simp[LV.pure,aO,bm cu]
 have aP7:LV.pure (.agg [.list 9 (lu.map aR),.list 9 (lv.map aR)])=true:=by simp[LV.pure,aO,bm cu]
 refine aL Tryz.func95 ?_;refine aN (avA r R hR hr lp lq aho agw vA agM air mc) ?_;refine aN (avA r R hR hr lu lv aEk aLZ jb aGC aE3 hlv) ?_;refine bN ?_;refine dU 24 rfl ?_ ?_<;>intro um rT
 ·refine bI ?_;refine dU 27 rfl ?_ ?_<;>intro aac h27
  ·refine bc ?_;refine al (ib (v:=true) rfl rfl (aac) rfl) (.bin rfl rfl (ahM J J)) ?_;refine a6 ?_;rw[hoe,um,aac];exact iB
  refine bM ?_;rw[hoe,um,aac];exact iB
 refine bG ?_;rw[hoe,um];exact iB
open fc in
theorem asZ(q:aF)(R:Nat)(hR:R<=1000000)(h:oO R q):an ai 191 [aA q] (aA q):=by
 obtain⟨hp,hw,nt⟩:=h;have tY:rl 0=1:=rfl;have hA:=lf q.w 0 J;rw[oc]at hA;have hz:cG 1 (⟨0,0,0⟩:V3):=⟨by decide,by decide,by decide⟩;have hV:an ai 246 [aR q.p,aR ⟨0,0,0⟩] (aR q.p):=by
  have:=aM8 q.p ⟨0,0,0⟩ (R+1) J (hp.le J) (hz.le J);rwa[show v3a q.p ⟨0,0,0⟩=q.p from by unfold v3a;simp only[oc]]at this
 refine aL Tryz.func191 (ht:=(fun g=>LV.db g _ (ez.pure _))) ?_;refine b7 ?_;refine tj aGq ?_;refine cp aC (hV) ?_;refine bc ?_;refine pg ?_;refine cp aC (hA) ?_;refine tj (ahz rfl rfl) ?_;refine aK ?_;exact iJ [] rfl rfl rfl cs (cU cs rfl) oT (.pure pu)
namespace aq9
theorem aJ{p q:Prop}(k:q)(e:p=q:=by simp only[bD,bo,bp,bh,cC,dD,du,dC,reduceIte,if_true,if_false,dW,LV.kill,bC];exact rfl):p:=e.mpr k
end aq9
open aq9 in
theorem aO6(d:Nat)(kn:List Rat)(po:List aF)(R:Nat)(hR:R<=1000000)(h:uG po d R):an ai 94 [.agg [ah d,.list 3 (kn.map ae),.list 12 (po.map aA)]] (.aY [aR (po.getD 0 default).p,aR (po.getD (po.length-1) default).p]):=by
 have hl:=h.hl;have h6:=h.h6;have dZ:LV.pure (.agg [ah d,.list 3 (kn.map ae),.list 12 (po.map aA)])=true:=eN;have uk:=asZ (po.getD 0 default) R hR (h.ok _ (qo J));have uU:=asZ (po.getD (po.length-1) default) R hR (h.ok _ (qo J));refine aL Tryz.func94 (ht:=(iz (cu.pure _) (cu.pure _))) ?_;refine lN ?_;refine aD rfl ?_ ?_<;>intro h7r h7
 ·omega
 refine bI ?_;refine ace rfl 16 2 [6,7,8,9,10,11,12,13,14,15] aG rfl ?_;simp only[qS,tn,bD,bo,bp,bh,bh7,dh1,dh2,dh3];refine bf (uk) ?_;refine a6 ?_;refine jc ?_;refine bf (uU) ?_;refine bn ?_;refine abZ ?_;simp only[List.drop_succ_cons,jv];refine aW ?_;exact aes [] rfl rfl rfl cs (cU cs rfl) jw (.pure pu) rfl rfl cs (cU cs rfl) jw (.pure pu)
structure M3 where
 a:V3
 b:V3
 c:V3
 t:V3
 deriving Inhabited
def fT(m:M3):LV:=.agg [.agg [aR m.a,aR m.b,aR m.c],aR m.t]
theorem fB:jF fT 36 true:=⟨fun m=>by simp[fT,LV.aq,dg,cu.aq],fun _=>rfl,fun m=>by simp[fT,LV.pure,aO,cu.pure]⟩
def m3t(m:M3)(p:V3):V3:=⟨cA m.a p,cA m.b p,cA m.c p⟩
def m3p(m:M3)(p:V3):V3:=v3a (m3t m p) m.t
def vw(m:M3)(q:aF):aF:=⟨m3p m q.p,q.w⟩
def vr(R:Nat)(m:M3):Prop:=cG R m.a/\cG R m.b/\cG R m.c/\cG R m.t
theorem aAX{R S:Nat}{m:M3}{p:V3}(hm:vr R m)(hp:cG S p):cG (3*(R+S)+4) (m3t m p):=⟨adn hm.1 hp,adn hm.2.1 hp,adn hm.2.2.1 hp⟩
instance:EC ai 67 fT 36 true ⟨⟨0,0,0⟩,⟨0,0,0⟩,⟨0,0,0⟩,⟨0,0,0⟩⟩:=⟨fB,Z67,T67⟩
theorem ak5(p:V3):(aR p).at 0 9 true=some (aR p):=cU (cu.aq p) rfl
theorem aiz(m:M3):(fT m).at 0 9 true=some (aR m.a):=by
 simp[fT,LV.at,wT,LV.aq,dg,cu.aq,ak5]
theorem ahO(m:M3):(fT m).at 9 9 true=some (aR m.b):=by
 simp[fT,LV.at,wT,LV.aq,dg,cu.aq,ak5]
theorem ak9(m:M3):(fT m).at 18 9 true=some (aR m.c):=by
 simp[fT,LV.at,wT,LV.aq,dg,cu.aq,ak5]
theorem auA(m:M3):(fT m).at 27 9 true=some (aR m.t):=by
 simp[fT,LV.at,wT,LV.aq,dg,cu.aq,ak5]
theorem aio(m:M3)(b:Nat):(fT m).kill b=fT m:=LV.oH b _ (fB.pure m)
section
variable {P:Program} {H:cd} {ρ:Operand->LV} {T E:TypeId}
theorem aoi{o0 o1 o2:Operand}{a b c:V3}[u:UN P T (.array 3 E)][t:TI P E 9 true][z:ZI P T (.agg [aR ⟨0,0,0⟩,aR ⟨0,0,0⟩,aR ⟨0,0,0⟩])](h0:ρ o0=aR a)(h1:ρ o1=aR b)(h2:ρ o2=aR c):
  aM P H ρ (.build T #[(0,o0),(1,o1),(2,o2)]) (.agg [aR a,aR b,aR c]):=by
 have:=aM.yX (H:=H) (ρ:=ρ) (ps:=#[(0,o0),(1,o1),(2,o2)]) (u:=u) (t:=t) (z:=z) (by simp[lay,cu.aq,cu.isAgg]) (by
  intro p hp;simp only[dS,jR,or_false]at hp;rcases hp with rfl|rfl|rfl
  ·exact⟨_,rfl,by rw[h0];simp[lay,cu.aq,cu.isAgg],by rw[h0];exact LV.fJ (cu.pure _),by rw[h0];exact LV.fh (cu.pure _)⟩
  ·exact⟨_,rfl,by rw[h1];simp[lay,cu.aq,cu.isAgg],by rw[h1];exact LV.fJ (cu.pure _),by rw[h1];exact LV.fh (cu.pure _)⟩
  exact⟨_,rfl,by rw[h2];simp[lay,cu.aq,cu.isAgg],by rw[h2];exact LV.fJ (cu.pure _),by rw[h2];exact LV.fh (cu.pure _)⟩)
 simpa only[kP,oC,tF,vg,h0,h1,h2]using this
end
instance:ZI ai 65 (.agg [aR ⟨0,0,0⟩,aR ⟨0,0,0⟩,aR ⟨0,0,0⟩]):=⟨Z65⟩
instance:ZI ai 67 (.agg [.agg [aR ⟨0,0,0⟩,aR ⟨0,0,0⟩,aR ⟨0,0,0⟩],aR ⟨0,0,0⟩]):=⟨Z67⟩
instance:AE ai 67 fT 36 true ⟨⟨0,0,0⟩,⟨0,0,0⟩,⟨0,0,0⟩,⟨0,0,0⟩⟩:=⟨fB,Z67⟩
open fc in
theorem aGH(p q r:V3)(R:Nat)(hR:R<=200000000)(hp:cG R p)(hq:cG R q)(hr:cG R r):an ai 244 [aR p,aR q,aR r] (ae (cA p (iW q r))):=by
 have hx:=abY hq hr;refine aL Tryz.func244 ?_;refine aN (akJ q r R J hq hr) ?_;refine cp aC (ahp p (iW q r) (4*R+5) J (hp.le J) hx) ?_;refine aK ?_;exact fO
namespace aow
theorem aJ{p q:Prop}(k:q)(e:p=q:=by simp only[bD,bo,bp,bh,aio,dD,du,dC,reduceIte,if_true,if_false,dW,LV.kill,bC];exact rfl):p:=e.mpr k
end aow
open aow in
theorem ayx(m:M3)(R:Nat)(hR:R<=200000000)(hm:vr R m):an ai 187 [fT m] (ae (cA m.a (iW m.b m.c))):=by
 obtain⟨iX,fC,sG,qm⟩:=hm;refine aL Tryz.func187 ?_;refine b7 ?_;refine al rfl (.fa rfl rfl rfl rfl (fB.aq m) (aiz m) jw) ?_;refine bc ?_;refine al rfl (.fa rfl rfl rfl rfl (fB.aq m) (ahO m) jw) ?_;refine bc ?_;refine al rfl (.fa rfl rfl rfl rfl (fB.aq m) (ak9 m) jw) ?_;refine cp kN (aGH m.a m.b m.c R hR iX fC sG) ?_;refine aK ?_;exact fO
def trM(a b c:V3):LV:=.agg [aR a,aR b,aR c]
theorem apl(a b c:V3):(trM a b c).pure=true:=by simp only[trM,LV.pure,aO,cu.pure,sf]
theorem asJ(m:M3)(q:V3):(fT m).put 27 (aR q)=some (fT ⟨m.a,m.b,m.c,q⟩):=by
 have hq:(aR m.t).put 0 (aR q)=some (aR q):=ptp;simp[fT,LV.put,aaT,LV.aq,dg,cu.aq,hq]
theorem aGW(m:M3):(fT m).at 0 27 true=some (.agg [aR m.a,aR m.b,aR m.c]):=by
 simp[fT,LV.at,wT,LV.aq,dg,cu.aq,sW]
open oS in
theorem aF7(a b c:V3)(R:Nat)(hR:R<=1000000000)(ha:cG R a)(hb:cG R b)(hc:cG R c):an ai 189 [.agg [aR a,aR b,aR c]] (.agg [aR ⟨a.x,b.x,c.x⟩,aR ⟨a.y,b.y,c.y⟩,aR ⟨a.z,b.z,c.z⟩]):=by
 obtain⟨a1,a2,a3⟩:=ha;obtain⟨y1,y2,y3⟩:=hb;obtain⟨z1,z2,z3⟩:=hc;have tY:rl 0=1:=rfl;have aas:=lf a.x 0 J;rw[oc]at aas;have aal:=lf a.y 0 J;rw[oc]at aal;have aaK:=lf a.z 0 J;rw[oc]at aaK;have aa9:=lf b.x 0 J;rw[oc]at aa9;have aak:=lf b.y 0 J;rw[oc]at aak;have aam:=lf b.z 0 J;rw[oc]at aam;have aav:=lf c.x 0 J;rw[oc]at aav;have aaM:=lf c.y 0 J;rw[oc]at aaM;have abb:=lf c.z 0 J;rw[oc]at abb;refine aL Tryz.func189 (ht:=(fun g=>LV.db g _ (apl _ _ _))) ?_;refine uV ?_;refine gH ?_;refine lN ?_;refine gH ?_;refine lV ?_
 try refine aJ ?_
 first|refine cp aC aas ?_|refine cp aC aal ?_|refine cp aC aaK ?_|refine cp aC aa9 ?_|refine cp aC aak ?_|refine cp aC aam ?_|refine cp aC aav ?_|refine cp aC aaM ?_|refine cp aC abb ?_
 refine bN ?_;refine gH ?_;refine lV ?_
 try refine aJ ?_
 first|refine cp aC aas ?_|refine cp aC aal ?_|refine cp aC aaK ?_|refine cp aC aa9 ?_|refine cp aC aak ?_|refine cp aC aam ?_|refine cp aC aav ?_|refine cp aC aaM ?_|refine cp aC abb ?_
 refine bN ?_;refine gH ?_;refine lV ?_
 try refine aJ ?_
 first|refine cp aC aas ?_|refine cp aC aal ?_|refine cp aC aaK ?_|refine cp aC aa9 ?_|refine cp aC aak ?_|refine cp aC aam ?_|refine cp aC aav ?_|refine cp aC aaM ?_|refine cp aC abb ?_
 refine bN ?_;refine pa ?_;refine bN ?_;refine gH ?_;refine lN ?_;refine gH ?_;refine lV ?_
 try refine aJ ?_
 first|refine cp aC aas ?_|refine cp aC aal ?_|refine cp aC aaK ?_|refine cp aC aa9 ?_|refine cp aC aak ?_|refine cp aC aam ?_|refine cp aC aav ?_|refine cp aC aaM ?_|refine cp aC abb ?_
 refine bN ?_;refine gH ?_;refine lV ?_
 try refine aJ ?_
 first|refine cp aC aas ?_|refine cp aC aal ?_|refine cp aC aaK ?_|refine cp aC aa9 ?_|refine cp aC aak ?_|refine cp aC aam ?_|refine cp aC aav ?_|refine cp aC aaM ?_|refine cp aC abb ?_
 refine bN ?_;refine gH ?_;refine lV ?_
 try refine aJ ?_
 first|refine cp aC aas ?_|refine cp aC aal ?_|refine cp aC aaK ?_|refine cp aC aa9 ?_|refine cp aC aak ?_|refine cp aC aam ?_|refine cp aC aav ?_|refine cp aC aaM ?_|refine cp aC abb ?_
 refine bN ?_;refine pa ?_;refine bN ?_;refine gH ?_;refine lN ?_;refine gH ?_;refine lV ?_
 try refine aJ ?_
 first|refine cp aC aas ?_|refine cp aC aal ?_|refine cp aC aaK ?_|refine cp aC aa9 ?_|refine cp aC aak ?_|refine cp aC aam ?_|refine cp aC aav ?_|refine cp aC aaM ?_|refine cp aC abb ?_
 refine bN ?_;refine gH ?_;refine lV ?_
 try refine aJ ?_
 first|refine cp aC aas ?_|refine cp aC aal ?_|refine cp aC aaK ?_|refine cp aC aa9 ?_|refine cp aC aak ?_|refine cp aC aam ?_|refine cp aC aav ?_|refine cp aC aaM ?_|refine cp aC abb ?_
 refine bN ?_;refine gH ?_;refine lV ?_
 try refine aJ ?_
 first|refine cp aC aas ?_|refine cp aC aal ?_|refine cp aC aaK ?_|refine cp aC aa9 ?_|refine cp aC aak ?_|refine cp aC aam ?_|refine cp aC aav ?_|refine cp aC aaM ?_|refine cp aC abb ?_
 refine bN ?_;refine pa ?_;refine bN ?_;refine pa ?_;refine bG ?_;exact iJ [] rfl rfl rfl cs (cU cs rfl) T65 (.pure (apl ⟨a.x,b.x,c.x⟩ ⟨a.y,b.y,c.y⟩ ⟨a.z,b.z,c.z⟩))
namespace ah8
theorem aJ{p q:Prop}(k:q)(e:p=q:=by simp only[bD,bo,bp,bh,aio,List.getD_cons_zero,List.getD_cons_succ,dD,du,dC,reduceIte,if_true,if_false,dW,LV.kill,bC];exact rfl):p:=e.mpr k
end ah8
open ah8 in
theorem aKH(m:M3)(R:Nat)(hR:R<=1000000000)(hm:vr R m)(p:V3)(vy:cG R p):an ai 190 [fT m,aR p] (aR (m3t m p)):=by
 obtain⟨iX,fC,sG,qm⟩:=hm;refine aL Tryz.func190 (ht:=(fun r=>LV.db r _ (cu.pure _))) ?_;refine lN ?_;refine al rfl (.fa (r:=.agg [aR m.a,aR m.b,aR m.c]) (n:=27) (ag:=true) rfl rfl rfl rfl (fB.aq m) (aGW m) T65) ?_;refine nR ?_;refine aN (ahp m.a p R J iX vy) ?_;refine aW ?_;refine vD ?_;refine nR ?_;refine aN (ahp m.b p R J fC vy) ?_;refine aW ?_;refine vD ?_;refine nR ?_;refine aN (ahp m.c p R J sG vy) ?_;refine aW ?_;refine vD ?_;refine aK ?_;refine pa ?_;refine bG ?_;exact vG
theorem apA{P:Program}{H:cd}{ρ:Operand->LV}{T:TypeId}{o0:Operand}{a b c:V3}[z:ZI P T (.agg [.agg [aR ⟨0,0,0⟩,aR ⟨0,0,0⟩,aR ⟨0,0,0⟩],aR ⟨0,0,0⟩])][s:SI P T [(27,true),(9,true)]](h0:ρ o0=.agg [aR a,aR b,aR c]):
  aM P H ρ (.build T #[(0,o0)]) (fT ⟨a,b,c,⟨0,0,0⟩⟩):=by
 have hp:LV.pure (.agg [aR a,aR b,aR c])=true:=by simp[LV.pure,aO,cu.pure]
 have:=aM.bd (H:=H) (ρ:=ρ) (ps:=#[(0,o0)]) (z:=z) (s:=s) (by simp[lay,LV.aq,dg,cu.aq,cu.isAgg,sW]) (by
  intro q hq;simp only[dS,jR,or_false]at hq;rcases hq with rfl;exact⟨_,rfl,by rw[h0];simp[lay,cu.aq,LV.aq,dg,sW],by rw[h0];exact LV.fJ hp,by rw[h0];exact LV.fh hp⟩)
 simp only[kP,oC,tF,vg,h0]at this;exact this
def ivM(m:M3):M3:=⟨rK m.a m.b m.c,sM m.a m.b m.c,yw m.a m.b m.c,kJ (-1) (m3t ⟨rK m.a m.b m.c,sM m.a m.b m.c,yw m.a m.b m.c,⟨0,0,0⟩⟩ m.t)⟩
open ah8 in
theorem aOj(m:M3)(R:Nat)(hR:R<=40000000)(hm:vr R m)(hv:cA m.a (iW m.b m.c)≠0):an ai 91 [fT m] (.aY [fT (ivM m),iL 0]):=by
 have iw:=hm;obtain⟨iX,fC,sG,qm⟩:=hm;have lH:=abY fC sG;have iT:=abY sG iX;have uJ:=abY iX fC;have hV:=ayx m R J iw;have fR:rl 1=1:=rfl;have hrv:=adn iX lH;have hrf:rl (iN m.a m.b m.c)<=20*R+30:=by
  have:=pv 1 (cA m.a (iW m.b m.c));unfold iN;omega
 have hQ:an ai 159 [ae 1,ae (cA m.a (iW m.b m.c))] (.aY [ae (iN m.a m.b m.c),iL 0]):=by
  have:=zp 1 (cA m.a (iW m.b m.c)) J;rwa[if_neg hv]at this
 have pP:an ai 90 [iL 1] (ae 1):=zV 1 aj aj;have h1m:an ai 90 [iL (-1)] (ae (-1)):=by
  have:=zV (-1) aj aj;rwa[show (((-1:Int)):Rat)=-1 from by decide +kernel]at this
 have rh:∀q:V3,cG (4*R+5) q->cG (24*R+40) (kJ (iN m.a m.b m.c) q):=fun q ⟨vF,q2',q3'⟩=>by
  have e1x:=cF (iN m.a m.b m.c) q.x;have e2x:=cF (iN m.a m.b m.c) q.y;have e3x:=cF (iN m.a m.b m.c) q.z;exact⟨by show rl ((iN m.a m.b m.c)*q.x)<=_;omega,by show rl ((iN m.a m.b m.c)*q.y)<=_;omega,by show rl ((iN m.a m.b m.c)*q.z)<=_;omega⟩
 have hT:=aF7 (kJ (iN m.a m.b m.c) (iW m.b m.c)) (kJ (iN m.a m.b m.c) (iW m.c m.a)) (kJ (iN m.a m.b m.c) (iW m.a m.b)) (24*R+40) J (rh _ lH) (rh _ iT) (rh _ uJ);have aFk:cG (24*R+40) (rK m.a m.b m.c):=⟨(rh _ lH).1,(rh _ iT).1,(rh _ uJ).1⟩;have aLr:cG (24*R+40) (sM m.a m.b m.c):=⟨(rh _ lH).2.1,(rh _ iT).2.1,(rh _ uJ).2.1⟩;have aGi:cG (24*R+40) (yw m.a m.b m.c):=⟨(rh _ lH).2.2,(rh _ iT).2.2,(rh _ uJ).2.2⟩;have hbi:vr (24*R+40) ⟨rK m.a m.b m.c,sM m.a m.b m.c,yw m.a m.b m.c,⟨0,0,0⟩⟩:=⟨aFk,aLr,aGi,⟨by show rl 0<=_;have:rl 0=1:=rfl;omega,by show rl 0<=_;have:rl 0=1:=rfl;omega,by show rl 0<=_;have:rl 0=1:=rfl;omega⟩⟩;have hTu:=aKH ⟨rK m.a m.b m.c,sM m.a m.b m.c,yw m.a m.b m.c,⟨0,0,0⟩⟩ (24*R+40) J hbi m.t (qm.le J);have hbt:=aAX hbi qm;have hSc:=agR (-1) (m3t ⟨rK m.a m.b m.c,sM m.a m.b m.c,yw m.a m.b m.c,⟨0,0,0⟩⟩ m.t) (3*(24*R+40+R)+4) J (by have:rl (-1)=1:=aG;omega) hbt;refine aL aAe (ht:=(iz (fB.pure _) rfl)) ?_;refine bH ?_;refine gE 8 [6] aG ?_;refine cp cr (pP) ?_;refine al rfl amq ?_;refine dN rfl (.cons (.pure (fB.pure m)) .nil) hV ?_;refine cp aC (hQ) ?_;refine iR ?_;refine vM ?_;refine a6 ?_;refine al rfl (.fa rfl rfl rfl rfl (fB.aq m) (ahO m) jw) ?_;refine bc ?_
 refine al rfl (.fa rfl rfl rfl rfl (fB.aq m) (ak9 m) jw) ?_;refine cp aC (akJ m.b m.c R J fC sG) ?_;refine bc ?_;refine al rfl (.fa rfl rfl rfl rfl (fB.aq m) (ak9 m) jw) ?_;refine bc ?_;refine al rfl (.fa rfl rfl rfl rfl (fB.aq m) (aiz m) jw) ?_;refine cp aC (akJ m.c m.a R J sG iX) ?_;refine bc ?_;refine al rfl (.fa rfl rfl rfl rfl (fB.aq m) (aiz m) jw) ?_;refine bc ?_;refine al rfl (.fa rfl rfl rfl rfl (fB.aq m) (ahO m) jw) ?_;refine cp aC (akJ m.a m.b R J iX fC) ?_;refine al rfl (aoi rfl rfl rfl) ?_;refine bG ?_;refine gH ?_;refine aN (agR (iN m.a m.b m.c) (iW m.b m.c) (20*R+30) J hrf (lH.le J)) ?_;refine aW ?_;refine cO (au.kill _ 8) ?_;refine nR ?_;refine aN (agR (iN m.a m.b m.c) (iW m.c m.a) (20*R+30) J hrf (iT.le J)) ?_;refine aW ?_;refine cO (au.kill _ 8) ?_;refine nR ?_;refine aN (agR (iN m.a m.b m.c) (iW m.a m.b) (20*R+30) J hrf (uJ.le J)) ?_;refine aW ?_;refine cO (au.kill _ 8) ?_;refine aK ?_;refine pa ?_;refine bH ?_
 refine dN rfl (.cons (.pure (apl (kJ (iN m.a m.b m.c) (iW m.b m.c)) (kJ (iN m.a m.b m.c) (iW m.c m.a)) (kJ (iN m.a m.b m.c) (iW m.a m.b)))) .nil) hT ?_;refine al rfl (apA (a:=rK m.a m.b m.c) (b:=sM m.a m.b m.c) (c:=yw m.a m.b m.c) rfl) ?_;refine bn ?_;refine cj rfl (.stE (e:=fT) (l:=[⟨⟨0,0,0⟩,⟨0,0,0⟩,⟨0,0,0⟩,⟨0,0,0⟩⟩]) (a:=⟨rK m.a m.b m.c,sM m.a m.b m.c,yw m.a m.b m.c,⟨0,0,0⟩⟩) rfl rfl rfl aE) ?_;refine bf (h1m) ?_;refine al rfl (.fa rfl rfl rfl rfl (fB.aq (⟨rK m.a m.b m.c,sM m.a m.b m.c,yw m.a m.b m.c,⟨0,0,0⟩⟩)) (cU (fB.aq (⟨rK m.a m.b m.c,sM m.a m.b m.c,yw m.a m.b m.c,⟨0,0,0⟩⟩)) rfl) T67) ?_;refine bn ?_;refine al rfl (.fa rfl rfl rfl rfl (fB.aq m) (auA m) jw) ?_;refine dN rfl (.cons (.pure (fB.pure _)) (.cons (.pure (cu.pure _)) .nil)) hTu ?_;refine cp aC (hSc) ?_;refine bn ?_;refine cj rfl (.store (y:=fT ⟨rK m.a m.b m.c,sM m.a m.b m.c,yw m.a m.b m.c,⟨0,0,0⟩⟩) (y':=fT (ivM m)) rfl rfl rfl rfl rfl (fB.aq _) (asJ ⟨rK m.a m.b m.c,sM m.a m.b m.c,yw m.a m.b m.c,⟨0,0,0⟩⟩ _) (by show bS _ _ (LV.aq (aR _)) (LV.isAgg (aR _));rw[cu.aq,cu.isAgg];exact jw) ⟨LV.fJ (cu.pure _),LV.fh (cu.pure _)⟩) ?_;refine aK ?_;refine al rfl (.fa rfl rfl rfl rfl (fB.aq (ivM m)) (cU (fB.aq (ivM m)) rfl) T67) ?_
 refine cj rfl (.stE (e:=fT) (l:=[⟨⟨0,0,0⟩,⟨0,0,0⟩,⟨0,0,0⟩,⟨0,0,0⟩⟩]) (a:=ivM m) rfl rfl rfl aE) ?_;refine aK ?_;exact wO [] rfl rfl rfl (fB.aq _) (cU (fB.aq _) rfl) T67 (.pure (fB.pure _)) rfl (.pure rfl)
theorem aJj{P:Program}{H:cd}{ρ:Operand->LV}{T E:TypeId}{o2:Operand}{a:Rat}[u:UN P T (.array 3 E)][t:TI P E 3 true][z:ZI P T (.agg [ae 0,ae 0,ae 0])](h0:ρ o2=ae a):aM P H ρ (.build T #[(2,o2)]) (aR ⟨0,0,a⟩):=by
 have:=aM.yX (H:=H) (ρ:=ρ) (ps:=#[(2,o2)]) (u:=u) (t:=t) (z:=z) aei (by
  intro q hq;simp only[dS,jR,or_false]at hq;subst hq;exact⟨_,rfl,by rw[h0];simp[lay,ao.aq,ao.isAgg],by rw[h0];exact LV.fJ (ao.pure _),by rw[h0];exact LV.fh (ao.pure _)⟩)
 simp only[kP,oC,tF,vg,h0]at this;exact this
theorem az0{s:Sp}(h:s.1<s.2):s.1<=jO s/\jO s<=s.2:=by
 have e:(s.1+s.2)/2*2=s.1+s.2:=tV aj;unfold jO;constructor<;>grind
open fc in
theorem ach(p:V3):an ai 92 [aR p] (.list 9 ([p].map aR)):=by
 refine aL Tryz.func92 (ht:=(fun g=>LV.db g _ (eY cu _ _))) ?_;refine ff ?_;exact lZ [4] rfl rfl (da (l:=[p]) cu rfl rfl rfl)
def m8(u v:V3):M3:=⟨oQ u v,oM u v,oD,⟨0,0,0⟩⟩
section
variable {D W na:Nat} {lk:mC} {x:ga} {st:List ga} {m:Nat} {cl:List lW}
theorem ac6:im D (x::st)=xk D x+im D st:=by simp[im]
theorem akB(hk:¬D<=x.2.1):im D (nJ x::n5 x::st)<im D (x::st):=by
 have:=azk (x:=x) (s:=oY (x.1.getD (gG x) default)) (s':=qA (x.1.getD (gG x) default)) (show x.2.1<D by omega);rw[ac6,ac6,ac6];unfold nJ n5;omega
theorem anc:∀st:List ga,st.length<=im D st
 | []=>bW _
 |x::st=>by
   have h1:=anc st;have h2:=afJ D x;rw[ac6,dR];omega
end
theorem atN(x:ga)(st jk:List ga):(x::st).reverse++jk=st.reverse++(x::jk):=aE
theorem aME(x:ga)(st jk:List ga):(st.reverse.map mF++(mF x::jk.map mF))[st.length]?=some (mF x):=by
 rw[List.getElem?_append_right aE];simp
theorem aDN(l m:List ga):(l++m).map mF=l.map mF++m.map mF:=wj
theorem ata(l m:List lW):(l++m).map fv=l.map fv++m.map fv:=wj
theorem aPh(st:List ga)(l:List LV):(st.reverse.map mF++l).take st.length=st.reverse.map mF:=by
 rw[List.take_append_of_le_length aE,cy aE]
theorem aFu{P:Program}{L:St}{blk' b0:aV}{bs:List aV}{l:List (Nat×aV)}{v:List LV}(hl:L.heap=hp l)(h0:hp l 0=some b0)(hb:blk'=⟨b0.sz,dL (rJ [1]) b0.vals,b0.mt⟩)(abg:∀c∈l.map (·.1),c≠0->c∈[1])
  (h1:hp l 1=some ⟨4,v,true⟩) (hv:aO v=true) (uj:bs=[⟨4,v,true⟩]):ajV P [] L (.aY []) blk' bs:=by
 have hdm:∀(l:List (Nat×aV)) (c:Nat),hp l c≠none->c∈l.map (·.1):=fun l=>by
  induction l with
  |nil=>exact fun c h=>absurd rfl h
  |cons p t ih =>
   obtain⟨d,y⟩:=p;intro c h;by_cases e:c=d
   ·simp[e]
   have:oV c d=false:=by rw[<-y9,uy];exact e
   simp only[hp,this,cond_false]at h;simp only[nK,dS];exact .inr (ih c h)
 refine⟨[],[1],b0,by rw[hl];exact h0,hb,.nil,by simp,by simp,by simp,fun c hc hh=>abg c (hdm l c (by rwa[hl]at hh)) hc,fun k b hk=>?_,rfl⟩
 match k,hk with
 |0,hk =>
  simp only[o8,gj]at hk;subst hk;exact⟨_,by rw[hl];exact h1,by rw[uj,my _ _ hv];rfl⟩
 |k+1,hk=>simp at hk
end Go.Proofs.YtbkmfcmgilhaaaaGreat
namespace Go.Lg
theorem au.aoA{L:St}(b:Nat)(bs:List Nat)(h0:bs.contains 0=false){sz:Nat}{x y:LV}{mt:Bool}(hb:(L.b9 bs).heap b=some ⟨sz,[x],mt⟩)(hi:dt (L.b9 bs).heap x y):au L ((L.b9 bs).bO b (some ⟨sz,[y],mt⟩)):=by
 rintro n W X Z0 a w ⟨fA,bU,μ,Z,hc0,hr⟩;obtain⟨Z',hc,hz⟩:=hc0.adk (vW bs h0);refine⟨fA,bU,μ,Z',?_,fun s=>bJ.mono hz (fun _ _ h=>h) (Frame.refl Z μ w) (hr s)⟩;have hs:∀c,((L.b9 bs).bO b (some ⟨sz,[y],mt⟩)).heap c=if c=b then some ⟨sz,[y],mt⟩else(L.b9 bs).heap c:=fun c=>rfl
 refine⟨hc.cV,hc.m9,hc.kU,hc.nc,hc.inj,hc.own,hc.x0,hc.pY,hc.x1,fun c id blk g1 g2=>?_,fun c id blk g1 g2=>?_,fun c id g1=>?_⟩
 ·rw[hs]at g2;split at g2
  ·rename_i e;subst e;cases g2;exact hc.ku c id ⟨sz,[x],mt⟩ g1 hb
  exact hc.ku c id blk g1 g2
 ·rw[hs]at g2;split at g2
  ·rename_i e;subst e;cases g2;exact hc.b9 c id ⟨sz,[x],mt⟩ g1 hb
  exact hc.b9 c id blk g1 g2
 obtain⟨blk,k1,k2⟩:=hc.heap c id g1;rw[hs];by_cases e:c=b
 ·subst e;rw[if_pos rfl];rw[hb]at k1
  cases k1
  refine⟨_,rfl,?_⟩;obtain⟨cs,T,part,rest,e1,e2,e3⟩:=k2;refine⟨cs,T,part,rest,e1,e2,?_⟩;simp only[aT]at e3 ⊢;obtain⟨c1,c2,q1,q2,q3,q4⟩:=e3;exact⟨c1,c2,q1,q2,dt.sound (bE:=μ) hc hi q3,q4⟩
 rw[if_neg e];exact⟨blk,k1,k2⟩
end Go.Lg
namespace Go.Proofs.YtbkmfcmgilhaaaaGreat
open Go.Lg
theorem abQ{P:Program}{ρ:Operand->LV}{T E:TypeId}{x:Operand}{d sz:Nat}{ag:Bool}{z v:LV}(hT:P.underlying T=some (.slice E))(hz:dM P E z)(hzc:z.aq=sz)(hza:z.isAgg=ag)(hE:bS P E sz ag)
  (hx:ρ x=v) (hvc:v.aq=sz) (hva:v.isAgg=ag) (hvp:v.pure=true) (hs:0<sz) (jl:sz<=1000):dV P ρ d (.buildSlice T 1 #[(0,x)]) (.ref d sz 0 1) ⟨sz,[v],true⟩:=by
 have:=dV.lit (P:=P) (ρ:=ρ) (d:=d) (T:=T) (n:=1) (ps:=#[(0,x)]) hT hz (by rw[hza];exact hE) hzc J J J (by
  intro p hp;simp only[iM]at hp;subst hp;refine⟨by simp,?_,by rw[hx];exact LV.fJ hvp,by rw[hx];exact LV.fh hvp⟩;simp[lay,hx,hvc,hva,hzc,hza])
 simpa[kP,hx,av]using this
theorem aFH{P:Program}{ρ:Operand->LV}{T E:TypeId}{x:Operand}{d sz:Nat}{ag:Bool}{z v:LV}(hT:P.underlying T=some (.slice E))(hz:dM P E z)(hzc:z.aq=sz)(hza:z.isAgg=ag)(hE:bS P E sz ag)
  (hx:ρ x=v) (hvc:v.aq=sz) (hva:v.isAgg=ag) (h1:v≠.any) (h2:∀l,v≠.aY l) (hs:0<sz) (jl:sz<=1000):dV P ρ d (.buildSlice T 1 #[(0,x)]) (.ref d sz 0 1) ⟨sz,[v],true⟩:=by
 have:=dV.lit (P:=P) (ρ:=ρ) (d:=d) (T:=T) (n:=1) (ps:=#[(0,x)]) hT hz (by rw[hza];exact hE) hzc J J J (by
  intro p hp;simp only[iM]at hp;subst hp;refine⟨by simp,?_,by rw[hx];exact h1,by rw[hx];exact h2⟩;simp[lay,hx,hvc,hva,hzc,hza])
 simpa[kP,hx,av]using this
def de(q:aF):Q4:=⟨q.w*q.p.x,q.w*q.p.y,q.w*q.p.z,q.w⟩
theorem aOQ(d:Nat)(a b t:Rat):fP (a8 d a b) t (a8 d a b).length=(if a=t then d+1 else 0)+(if b=t then d+1 else 0):=by
 have h:=aiY (av (d+1) a) (av (d+1) b) t (d+1);rw[oG]at h;have e:(a8 d a b).length=d+1+(d+1):=by rw[kz];omega
 rw[e];show fP (av (d+1) a++_) t _=_;rw[h,ahU _ _ _ _ (bF _),ahU _ _ _ _ (bF _)]
theorem aJ4{d:Nat}{a b:Rat}(h1:1<=d)(h6:d<=6)(cm:a<b)(hT:rl a<=64)(hT1:rl b<=64):kOK (a8 d a b) d:=by
 have hl:=kz d a b;have aZ:a≠b:=ba;have e0:(a8 d a b).getD 0 0=a:=by rw[jz _ _ _ _ J,if_pos J]
 have e1:(a8 d a b).getD ((a8 d a b).length-1) 0=b:=by rw[hl,jz _ _ _ _ J,if_neg J]
 have hm:∀x∈a8 d a b,x=a\/x=b:=fun x hx=>by
  rcases nC.1 hx with h|h
  ·exact .inl (uK.1 h).2
  exact .inr (uK.1 h).2
 refine⟨h1,h6,J,J,fun i hi=>?_,by rw[e0,e1];exact aZ,fun t ht he=>?_,fun t ht g0 g1=>?_,fun x hx=>?_⟩
 ·rw[jz _ _ _ _ J,jz _ _ _ _ J];split<;>split
  ·exact jM
  ·grind
  ·omega
  exact jM
 ·rw[aOQ];rcases hm t ht with rfl|rfl
  ·rw[if_pos rfl,if_neg (fun e=>aZ e.symm)]
  rw[if_neg aZ,if_pos rfl,fZ]
 ·rw[e0]at g0;rw[e1]at g1;rcases hm t ht with h|h
  ·exact absurd h g0
  exact absurd h g1
 rcases hm x hx with rfl|rfl<;>assumption
theorem ayG{d:Nat}{a b:Rat}:∀i,i+1<=d+1->cT (a8 d a b) (i+1)=[a]
 |0,_=>by rw[cT,if_pos (.inl rfl),ye];rfl
 |i+1,h=>by
  rw[afC J (by rw[jz _ _ _ _ J,jz _ _ _ _ J,if_pos J,if_pos J]),ayG i J]
theorem axf{d:Nat}{a b:Rat}(cm:a<b):∀i,i+1<=d+1->cT (a8 d a b) (d+1+(i+1))=[a,b]
 |0,_=>by
  rw[<-vp,amj J (by rw[jz _ _ _ _ J,jz _ _ _ _ J,if_neg J,if_pos J];grind),nW,ayG d J,jz _ _ _ _ J,if_neg J];rfl
 |i+1,h=>by
  rw[<-vp,afC J (by rw[jz _ _ _ _ J,jz _ _ _ _ J,if_neg J,if_neg J]),axf cm i J]
theorem axR{d:Nat}{a b:Rat}(cm:a<b):cT (a8 d a b) (a8 d a b).length=[a,b]:=by
 have:=axf (d:=d) cm d (bF _);rwa[show d+1+(d+1)=(a8 d a b).length by rw[kz];omega]at this
namespace aCF
theorem aJ{p q:Prop}(k:q)(e:p=q:=by simp only[bD,bo,bp,bh,hl,cC,dD,du,dC,reduceIte,if_true,if_false,dW,LV.kill,bC];exact rfl):p:=e.mpr k
end aCF
open aCF in
theorem axx(d:Nat)(k:List Rat)(po:List aF)(hk:kOK k d)(hl:po.length=k.length-d-1):an ai 65 [.agg [ah d,.list 3 (k.map ae),.list 12 (po.map aA)]] (bL true):=by
 have dZ:LV.pure (.agg [ah d,.list 3 (k.map ae),.list 12 (po.map aA)])=true:=eN;have h9:=hk.d6;have hm:=hk.max;have hn:=hk.len;have hKp:an ai 142 [.list 3 (k.map ae),ah d] (ah (k.length-d-1)):=amN k d J J;refine aL Tryz.func65 ?_;refine aN (aJe k d hk) ?_;refine bc ?_;refine al nQ l5 ?_;refine al nQ gJ ?_;refine al nQ zj ?_;refine al nQ l5 ?_;refine al nQ gJ ?_;refine al nQ l5 ?_;refine al nQ gJ ?_;refine dN nQ (.cons eu (.cons eu .nil)) (hKp) ?_;refine agQ ?_;refine aK ?_;exact eG (x:=bL true) (by refine Eq.trans (b:=LV.v (Value.bool (((k.length-d-1:Nat):Int)==((k.length-d-1:Nat):Int)))) rfl ?_;rw[beq_self_eq_true]) (.pure rfl)
namespace arW
theorem aJ{p q:Prop}(k:q)(e:p=q:=by simp only[bD,bo,bp,bh,fw,fg,cC,jt,dR,fX,fD,gy,gU,ey,dD,du,dC,reduceIte,if_true,if_false,dW,LV.kill,bC,afU,dO pH];exact rfl):p:=e.mpr k
end arW
open arW in
theorem at1(d:Nat)(k:List Rat)(po:List aF)(R:Nat)(fL:1<=R)(hR:R<=1000)(hd:d<=100)(gz:k.length<=200)(kW:∀x∈k,rl x<=1000)(gf:po.length<=200)(xl:∀q∈po,oO R q):an ai 66 [.agg [ah d,.list 3 (k.map ae),.list 12 (po.map aA)]] (.agg [ah d,.list 3 (k.map ae),.list 12 ((po.map de).map dY)]):=by
 have dZ:LV.pure (.agg [ah d,.list 3 (k.map ae),.list 12 (po.map aA)])=true:=eN;have hsq:LV.pure (.agg [ah d,.list 3 (k.map ae),.list 12 ((po.map de).map dY)])=true:=ajj;refine aL Tryz.func66 (ht:=(fun g=>LV.db g _ ajj)) ?_;have fw:True:=trivial;have fg:True:=trivial;refine avd ?_;refine iS ((au.cell 3 rfl (fun Z μ w cs h=>aeB 23 12 _ _ Z μ w cs h)).trans (au.qy _ 23 12 rfl)) ?_;refine dy (fun(j:Nat) L=>(mS L [(1,⟨3,[.agg [ah d,.list 3 (k.map ae),.list 12 (po.map aA)]],true⟩),(2,⟨3,[.agg [.v (.int .i64 0),.v (.slice none 0 0),.v (.slice none 0 0)]],true⟩),(3,⟨3,[.agg [ah d,.list 3 (k.map ae),.ref 23 12 0 j]],true⟩),(23,⟨12,((po.map de).take j).map dY,true⟩)] [(14,ah j),(13,ah po.length),(12,.list 12 (po.map aA)),(3,.aB 3 3 0 0),(2,.aB 2 3 0 0),(1,.aB 1 3 0 0)])) (fun j=>j<=po.length) (fun j=>po.length-j) 0 (bW _) ?_;rintro j L1 hj;refine a6 ?_;refine aD rfl ?_ ?_<;>intro rB n9
 ·have iH:j<po.length:=J;have hO:an ai 143 [aA (po.getD j default)] (dY (de (po.getD j default))):=aCm (po.getD j default) R J (xl _ (qo iH));have fg:(po.map de).take j++[de (po.getD j default)]=(po.map de).take (j+1):=yO de po iH;have fw:(((po.map de).take j).map dY).take j=((po.map de).take j).map dY:=cy aQ;refine bf (hO) ?_;refine bn ?_;refine cj rfl (.eU (d:=23) (news:=[dY (de (po.getD j default))]) rfl rfl rfl rfl aQ (.inl rfl) aj abf abf ajg (by first|exact acY|(rw[pH.isAgg];exact acY)) cs ar1 (.inl ⟨22,0,_,rfl,by decide,rfl,rfl,by simp,rfl,by simp[aO,pH.pure]⟩) aQ aQ aj) ?_;refine aW ?_;refine cO ((au.kill _ 5).trans (au.kill _ 22)) ?_;refine eP ?_;exact yd
 obtain rfl:j=po.length:=J;have hE:(po.map de).take po.length=(po.map de):=cy aE;simp only[hE];refine bG ?_;exact iJ [23] rfl rfl rfl cs (cU cs rfl) ai8 (.agg (.cons (.pure rfl) (.cons (.pure (bm ao _)) (.cons (da pH rfl rfl aE) .nil))))
namespace aB1
theorem aJ{p q:Prop}(k:q)(e:p=q:=by simp only[bD,bo,bp,bh,fw,fg,egq,cC,jt,dR,fX,fD,gy,gU,ey,dD,du,dC,reduceIte,if_true,if_false,dW,LV.kill,bC,afU,dO pH];exact rfl):p:=e.mpr k
end aB1
open aB1 in
theorem anu(d:Nat)(k:List Rat)(C:List Q4)(R4:Nat)(hR4:R4<=1000000000)(hd:d<=100)(gz:k.length<=200)(kW:∀x∈k,rl x<=1000)(hCl:C.length<=200)(hCb:∀q∈C,s8 R4 q/\0<q.w):an ai 68 [.agg [ah d,.list 3 (k.map ae),.list 12 (C.map dY)]] (.agg [ah d,.list 3 (k.map ae),.list 12 ((C.map dz).map aA)]):=by
 have hsq:LV.pure (.agg [ah d,.list 3 (k.map ae),.list 12 (C.map dY)])=true:=ahK;have hCo:=aGe k J (fun x hx=>aP (kW x hx) aj);refine aL Tryz.func68 (ht:=(fun g=>LV.db g _ (by simp[LV.pure,aO,bm ao,bm ez,-tI]))) ?_;have fw:True:=trivial;have fg:True:=trivial;have egq:True:=trivial;refine bf (hCo) ?_;refine iR ?_;refine iS ((au.cell 3 rfl (fun Z μ w cs h=>aeB 24 12 _ _ Z μ w cs h)).trans (au.qy _ 24 12 rfl)) ?_;refine dy (fun(j:Nat) L=>(mS L [(1,⟨3,[.agg [ah d,.list 3 (k.map ae),.list 12 (C.map dY)]],true⟩),(2,⟨3,[.agg [.v (.int .i64 0),.v (.slice none 0 0),.v (.slice none 0 0)]],true⟩),(3,⟨3,[.agg [ah d,.list 3 (k.map ae),.ref 24 12 0 j]],true⟩),(24,⟨12,((C.map dz).take j).map aA,true⟩)] [(15,ah j),(14,ah C.length),(13,.list 12 (C.map dY)),(3,.aB 3 3 0 0),(2,.aB 2 3 0 0),(1,.aB 1 3 0 0)])) (fun j=>j<=C.length) (fun j=>C.length-j) 0 (bW _) ?_;rintro j L1 hj;refine a6 ?_;refine aD rfl ?_ ?_<;>intro yY yW
 ·have iH:j<C.length:=J;have hq:=hCb _ (aHV (C:=C) iH);have hFP:an ai 79 [dY (C.getD j default)] (aA (dz (C.getD j default))):=awT _ _ _ _ R4 hR4 hq.1.1 hq.1.2.1 hq.1.2.2.1 hq.1.2.2.2 hq.2;have fg:(C.map dz).take j++[dz (C.getD j default)]=(C.map dz).take (j+1):=by rw[te,jY,ck iH,bq,ck iH];rfl
  have fw:(((C.map dz).take j).map aA).take j=((C.map dz).take j).map aA:=cy aQ;refine lN ?_;refine dN rfl (.cons (.pure (pH.pure _)) .nil) hFP ?_;refine bn ?_;refine cj rfl (.eU (d:=24) (news:=[aA (dz (C.getD j default))]) rfl rfl rfl rfl aQ (.inl rfl) aj mg mg xu (by first|exact oT|(rw[ez.isAgg];exact oT)) cs B42 (.inl ⟨23,0,_,rfl,by decide,rfl,rfl,by simp,rfl,by simp[aO,ez.pure]⟩) aQ aQ aj) ?_;refine aW ?_;refine cO ((au.kill _ 5).trans (au.kill _ 23)) ?_;refine eP ?_;exact yd
 obtain rfl:j=C.length:=J;have hE:(C.map dz).take C.length=(C.map dz):=cy aE;simp only[hE];refine bG ?_;exact iJ [24] rfl rfl rfl cs (cU cs rfl) fo (.agg (.cons (.pure rfl) (.cons (.pure (bm ao _)) (.cons (da ez rfl rfl aE) .nil))))
abbrev dP:=Nat×List Rat×List aF
def cR(c:dP):LV:=.agg [ah c.1,.list 3 (c.2.1.map ae),.list 12 (c.2.2.map aA)]
theorem dG:jF cR 3 true:=⟨fun c=>rfl,fun _=>rfl,fun c=>by simp[cR,LV.pure,aO,bm ao,bm ez]⟩
theorem aon(b:Nat)(c:dP):(cR c).kill b=cR c:=LV.oH b _ (dG.pure c)
section
attribute [local irreducible] cR
namespace avk
theorem aJ{p q:Prop}(k:q)(e:p=q:=by simp only[bD,bo,bp,bh,hds,mi,egd,cg,fg,fw,cC,List.length_drop,List.length_range,jt,dR,fX,fD,gy,gU,ey,dD,du,dC,reduceIte,if_true,if_false,dW,LV.kill,bC,afU,dO pH,aon,dO dG];exact rfl):p:=e.mpr k
end avk
open avk in
theorem atQ(d:Nat)(k D:List Rat)(po:List aF)(QC:Nat->List Q4)(n:Nat)(hn:D.length=n+1)(hn9:n<=100)(nN:0<k.length)(gz:k.length<=200)(kW:∀x∈k,rl x<=64)(hds:cT k k.length=D)(hSo:an ai 65 [.agg [ah d,.list 3 (k.map ae),.list 12 (po.map aA)]] (bL true))(hOf:an ai 66 [.agg [ah d,.list 3 (k.map ae),.list 12 (po.map aA)]] (.agg [ah d,.list 3 (k.map ae),.list 12 ((po.map de).map dY)]))(hCu:∀i,i<n->an ai 69 [.agg [ah d,.list 3 (k.map ae),.list 12 ((po.map de).map dY)],ae (D.getD i 0),ae (D.getD (i+1) 0)] (.agg [ah d,.list 3 ((a8 d (D.getD i 0) (D.getD (i+1) 0)).map ae),.list 12 ((QC i).map dY)]))(hBk:∀i,i<n->an ai 68 [.agg [ah d,.list 3 ((a8 d (D.getD i 0) (D.getD (i+1) 0)).map ae),.list 12 ((QC i).map dY)]] (cR ((d,a8 d (D.getD i 0) (D.getD (i+1) 0),(QC i).map dz):dP))):an ai 27 [.agg [ah d,.list 3 (k.map ae),.list 12 (po.map aA)]] (.list 3 (((cN n).map fun i=>((d,a8 d (D.getD i 0) (D.getD (i+1) 0),(QC i).map dz):dP)).map cR)):=by
 have dZ:LV.pure (.agg [ah d,.list 3 (k.map ae),.list 12 (po.map aA)])=true:=eN;have hsq:LV.pure (.agg [ah d,.list 3 (k.map ae),.list 12 ((po.map de).map dY)])=true:=ajj;have hDa:=ayD k nN J (fun x hx=>aP (kW x hx) aj);have mi:D.length-1=n:=J;refine aL Tryz.func27 (ht:=(fun g=>LV.db g _ (eY dG 3 _))) ?_;have egd:True:=trivial;have fg:True:=trivial;have fw:True:=trivial;refine bf (hSo) ?_;refine bI ?_;refine vM ?_;refine bf (hOf) ?_;refine bf (hDa) ?_;refine bK ?_;refine al rfl (.ad9 (a:=1) ao rfl dp cS rfl om) ?_;refine aW ?_;refine iS (au.own (t:=3) 34 3 rfl rfl) ?_;refine dy (fun(i:Nat) L=>(mS L [(1,⟨3,[.agg [ah d,.list 3 (k.map ae),.list 12 (po.map aA)]],true⟩),(4,⟨3,[.agg [ah d,.list 3 (k.map ae),.list 12 ((po.map de).map dY)]],true⟩),(34,⟨3,((cN i).map fun i=>((d,a8 d (D.getD i 0) (D.getD (i+1) 0),(QC i).map dz):dP)).map cR,true⟩)] [(19,ah i),(18,ah n),(17,.list 3 ((D.drop 1).map ae)),(5,.list 3 (D.map ae)),(4,.aB 4 3 0 0),(3,.ref 34 3 0 i),(1,.aB 1 3 0 0)])) (fun i=>i<=n) (fun i=>n-i) 0 (bW _) ?_;rintro i L1 hi;refine a6 ?_;refine aD rfl ?_ ?_<;>intro wk h20
 ·have cM:i<n:=J;have egd:(D.drop 1).getD i 0=D.getD (i+1) 0:=by rw[bq,u6,bq,vQ 1 i]
  have aM6:LV.pure (.agg [ah d,.list 3 ((a8 d (D.getD i 0) (D.getD (i+1) 0)).map ae),.list 12 ((QC i).map dY)])=true:=ahK;have hcu:=hCu i cM;have mn:=hBk i cM;have hpc:LV.pure (cR ((d,a8 d (D.getD i 0) (D.getD (i+1) 0),(QC i).map dz):dP))=true:=dG.pure _;have aKw:aO [cR ((d,a8 d (D.getD i 0) (D.getD (i+1) 0),(QC i).map dz):dP)]=true:=by simp only[aO,hpc,sf]
  have fg:((cN i).map fun i=>((d,a8 d (D.getD i 0) (D.getD (i+1) 0),(QC i).map dz):dP))++[((d,a8 d (D.getD i 0) (D.getD (i+1) 0),(QC i).map dz):dP)]=((cN (i+1)).map fun i=>((d,a8 d (D.getD i 0) (D.getD (i+1) 0),(QC i).map dz):dP)):=aAt (fun i=>((d,a8 d (D.getD i 0) (D.getD (i+1) 0),(QC i).map dz):dP)) i;have fw:(((cN i).map fun i=>((d,a8 d (D.getD i 0) (D.getD (i+1) 0),(QC i).map dz):dP)).map cR).take i=((cN i).map fun i=>((d,a8 d (D.getD i 0) (D.getD (i+1) 0),(QC i).map dz):dP)).map cR:=cy aE;refine bK ?_;refine al rfl (by first|exact .ahP ao rfl dp cS rfl (by first|omega|(simp only[jD];omega)) (by first|omega|(simp only[jD];omega))|exact .wL rfl dp cS rfl (by first|omega|(simp only[jD];omega)) (by first|omega|(simp only[jD];omega))) ?_;refine bN ?_;refine al rfl (by first|exact .ahP ao rfl dp cS rfl J J|exact .wL rfl dp cS rfl J J) ?_;refine al rfl (by first|exact .aco ao rfl cS|exact .axT ao rfl rfl cS J|exact .fa rfl rfl rfl rfl rfl rfl cS) ?_;refine bn ?_;refine aJ ?_;refine cp kN (hcu) ?_;refine dN rfl (.cons (.pure aM6) .nil) mn ?_
  try refine aJ ?_
  refine gv rfl rfl (abQ (z:=.agg [.v (.int .i64 0),.v (.slice none 0 0),.v (.slice none 0 0)]) (v:=cR ((d,a8 d (D.getD i 0) (D.getD (i+1) 0),(QC i).map dz):dP)) aeC Z28 rfl rfl fo rfl (dG.aq _) (dG.isAgg _) hpc aj aj) ?_;refine cj rfl (.eU (d:=34) (sz:=3) (news:=[cR ((d,a8 d (D.getD i 0) (D.getD (i+1) 0),(QC i).map dz):dP)]) (z:=.agg [.v (.int .i64 0),.v (.slice none 0 0),.v (.slice none 0 0)]) rfl rfl rfl rfl aE (.inl rfl) aj aeC aeC Z28 fo rfl B28 (.inl ⟨33,0,_,rfl,by decide,rfl,rfl,by simp,rfl,aKw⟩) aQ aQ aj) ?_;refine aK ?_;refine cO ((au.kill _ 7).trans (au.kill _ 33)) ?_;refine eP ?_;exact gM
 obtain rfl:n=i:=J;refine bG ?_;exact lZ [34] rfl rfl (da (l:=((cN n).map fun i=>((d,a8 d (D.getD i 0) (D.getD (i+1) 0),(QC i).map dz):dP))) dG rfl rfl aE)
end
open aq9 in
theorem auR(l:List (Rat×Rat))(wd:Rat)(hl:l.length<=1000)(hb:∀s∈l,cW 1000000 s)(uX:rl wd<=1000000):an ai 71 [.list 6 (l.map ar),ae wd] (bL (tC l wd)):=by
 refine aL Tryz.func71 ?_;refine iR ?_;refine dy (fun(i:Nat) L=>(mS L [(3,⟨3,[ae wd],true⟩)] [(9,ah i),(8,ah l.length),(7,.list 6 (l.map ar)),(3,.aB 3 3 0 0)])) (fun i=>i<=l.length/\∀j,j<i->¬wd<(l.getD j default).2-(l.getD j default).1) (fun i=>l.length-i) 0 ⟨bW _,fun j h=>absurd h (Nat.not_lt_zero _)⟩ ?_;rintro i L1 ⟨hi,ns⟩;refine a6 ?_;refine aD rfl ?_ ?_<;>intro nj pC
 ·have cM:i<l.length:=J;obtain⟨mb,yE⟩:=hb _ (abS cM);have hw:=eX (l.getD i default).2 (l.getD i default).1;refine bf (aoY (l.getD i default) J) ?_;refine aN (pS ((l.getD i default).2-(l.getD i default).1) wd J) ?_;refine bI ?_;refine aD rfl ?_ ?_<;>intro adz zR
  ·have hR:tC l wd=true:=by
    unfold tC;rw[List.any_eq_true];exact⟨_,abS cM,decide_eq_true (qe.1 zR)⟩
   refine bN ?_;rw[hR];exact iB
  have aos:∀j,j<i+1->¬wd<(l.getD j default).2-(l.getD j default).1:=fun j hj=>by
   rcases Nat.lt_succ_iff_lt_or_eq.1 hj with g|rfl
   ·exact ns j g
   exact fun e=>by have:=qe.2 e;omega
  refine bI ?_;refine cO (au.kill _ 6) ?_;refine eP ?_;exact ji (i+1) ⟨J,aos⟩
 obtain rfl:l.length=i:=J;have hR:tC l wd=false:=by
  unfold tC;rw[List.any_eq_false];intro s hs;obtain⟨j,hj,rfl⟩:=List.getElem_of_mem hs;have:=ns j hj;rw[bq,ck hj]at this;simpa using this
 refine bN ?_;rw[hR];exact iB
section
variable {D W na:Nat} {wd:Rat} {lk:mC} {x:ga} {st:List ga} {m:Nat} {cl:List lW}
theorem aul(h:W<=m):qn D W na wd lk (x::st,m,cl)=(st,m,cl++[rq na x (false,0,0)]):=by rw[qn,if_pos h]
theorem au9(h:¬W<=m)(hd:(lk (x.1.take na) (x.1.drop na)).1=true):qn D W na wd lk (x::st,m,cl)=(st,m+1,cl):=by rw[qn,if_neg h,if_pos hd]
theorem ax8(h:¬W<=m)(hd:(lk (x.1.take na) (x.1.drop na)).1=false)(hk:qx D wd x (lk (x.1.take na) (x.1.drop na))=true):
  qn D W na wd lk (x::st,m,cl)=(st,m+1,cl++[rq na x (lk (x.1.take na) (x.1.drop na))]):=by
 rw[qn,if_neg h,if_neg (by rw[hd];decide),if_pos hk]
theorem aj5(h:¬W<=m)(hd:(lk (x.1.take na) (x.1.drop na)).1=false)(hk:qx D wd x (lk (x.1.take na) (x.1.drop na))=false):
  qn D W na wd lk (x::st,m,cl)=(nJ x::n5 x::st,m+1,cl):=by
 rw[qn,if_neg h,if_neg (by rw[hd];decide),if_neg (by rw[hk];decide)]
theorem asu{v:Bool×Nat×Nat}(hk:mG v=3\/mG v=4)(hw:cq wd=0):qx D wd x v=true:=by
 unfold qx;rw[decide_eq_true hk,decide_eq_true (anM hw)];rfl
theorem asf{v:Bool×Nat×Nat}(hk:mG v=3\/mG v=4)(hw:tC x.1 wd=false):qx D wd x v=true:=by
 unfold qx;rw[decide_eq_true hk,hw];simp
theorem amf{v:Bool×Nat×Nat}(hk:D<=x.2.1):qx D wd x v=true:=by
 unfold qx;rw[decide_eq_true hk,Bool.or_true]
theorem amS{v:Bool×Nat×Nat}(hk:¬(mG v=3\/mG v=4))(hd:¬D<=x.2.1):qx D wd x v=false:=by
 unfold qx;rw[decide_eq_false hk,decide_eq_false hd];rfl
theorem anS{v:Bool×Nat×Nat}(h0:¬cq wd=0)(hw:tC x.1 wd=true)(hd:¬D<=x.2.1):qx D wd x v=false:=by
 unfold qx;rw[decide_eq_false (show ¬wd=0 from fun e=>h0 (by rw[e];rfl)),hw,decide_eq_false hd];simp
end
namespace aCI
theorem aJ{p q:Prop}(k:q)(e:p=q:=by simp only[bD,bo,bp,bh,ahN,ata,htz,List.drop_zero,aDN,aPh,List.map_cons,List.reverse_cons,List.reverse_nil,List.append_assoc,List.singleton_append,fv,rq,aaz,ayY,ekv,ekK,fw,edk,esc,zZ,ayf,htA,hrp,mF,vdL,hAl,fy0,fyc,dO bj,dO jH,dO agd,dO abT,cC,List.length_append,List.length_replicate,hAB,jt,dR,fX,fD,gy,gU,ey,dD,du,dC,reduceIte,if_true,if_false,dW,LV.kill,bC];exact rfl):p:=e.mpr k
end aCI
open aCI in
theorem aDz(f na n D W:Nat)(cap:List LV)(lk:mC)(I:ga->Prop)(hL:afh ai f cap D na n lk I)(dZ:aO cap=true)(hcs:∀x∈cap,x.aq=1/\x.isAgg=false)(A B:List Sp)(hna:A.length=na)(hA0:0<A.length)(hB0:0<B.length)(hn:A.length+B.length=n)(hn9:n<=10)(hI0:I (A++B,0,av n 0))(wd:Rat)(uX:rl wd<=100)(n0:Nat)(cz:List lW)(hD9:D<=24)(hW9:W<=4096)(jJ:n0<=4096)(aQN:cz.length<=100000000):zo ai 28 ⟨7,[.agg [.agg [ah D,ah W,ae wd],.ref 1 4 0 cz.length,ah n0]],true⟩ ⟨4,cz.map fv,true⟩ [.aB 0 7 0 0,.list 6 (A.map ar),.list 6 (B.map ar),.dT f cap] (.aY []) ⟨7,[.agg [.agg [ah D,ah W,ae wd],.ref 1 4 0 (yk D W na wd lk ([(A++B,0,av n 0)],n0,cz)).2.2.length,ah (yk D W na wd lk ([(A++B,0,av n 0)],n0,cz)).2.1]],true⟩ [⟨4,(yk D W na wd lk ([(A++B,0,av n 0)],n0,cz)).2.2.map fv,true⟩]:=by
 have ala:=hL.sp _ hI0;have hsA:∀s∈A,cW 1000000 s/\s.1<=s.2:=fun s hs=>⟨(ala s (awR _ hs)).1.le aj,(ala s (awR _ hs)).2⟩;have hsB:∀s∈B,cW 1000000 s/\s.1<=s.2:=fun s hs=>⟨(ala s (aCs _ hs)).1.le aj,(ala s (aCs _ hs)).2⟩;have hfA:=awD A hA0 J hsA;have hPB:=am6 B hB0 J hsB;have o7:=eY bj 6 A;have sH:=eY bj 6 B;have aHG:=eY bj 6 (A++B);have hAl:(A++B).length=n:=by rw[jx];exact hn
 have htA:(A.map ar).take A.length=A.map ar:=cy aE;have hAB:A.map ar++B.map ar=(A++B).map ar:=wj.symm;have hrp:av n (eE 0)=(av n (0:Int)).map eE:=by rw[List.map_replicate]
 have hpz:aO ((av n (0:Int)).map eE)=true:=bm jH _;have vE:=wF wd J;have htz:((av n (0:Int)).map eE).take n=(av n (0:Int)).map eE:=cy aE;have aQH:LV.pure (.dT f cap)=true:=by simpa[LV.pure]using dZ
 have hE0:=ahR D W na wd lk ([(A++B,0,av n 0)],n0,cz);have aDI:im D [(A++B,0,av n 0)]<=100000000:=by
  have s6:2^(D-0)<=2^24:=mN aj J;rw[ac6];show 2*2^(D-0)-1+0<=_;omega
 refine fnC Tryz.func28 ?_;have aaz:True:=trivial;have ayY:True:=trivial;have ekv:True:=trivial;have ekK:True:=trivial;have fw:True:=trivial;have edk:True:=trivial;have esc:True:=trivial;have zZ:True:=trivial;have ayf:True:=trivial;refine bI ?_;refine wU [] rfl rfl (.cons (.pure o7) .nil) hfA (bm bj _) rfl ?_;refine bf (hPB) ?_;refine cj rfl (.eU (d:=20) (news:=B.map ar) rfl rfl rfl rfl aE (.inr rfl) aj nF nF yN (by rw[bj.isAgg];exact lF) cs B60 (.inr (.inl rfl)) aQ aQ aj) ?_;refine aK ?_;refine cO ((au.hand (t:=8) (b:=20) (l:=A++B) bj rfl rfl (by rw[jx])).trans (au.refl _)) ?_
 try refine aJ ?_
 refine bI ?_
 try refine aJ ?_
 refine gv rfl rfl (.arE (n:=n) (m:=n) jH aaU (show dM _ _ (eE 0) from Z3) T3 B3 rfl rfl J J J) ?_;refine bn ?_
 try refine aJ ?_
 refine gv rfl rfl (aFH (z:=mF ([],0,[])) (v:=.agg [.list 6 ((A++B).map ar),iL 0,.ref 24 1 0 n]) apG aqQ rfl rfl aau rfl rfl rfl aE aE aj aj) ?_;refine aK ?_;refine iS (((au.aoA 26 [24] rfl rfl (.agg (.cons (.pure aHG) (.cons (.pure rfl) (.cons (abG rfl rfl hpz aE) .nil)))))).trans (au.kill _ 24)) ?_;refine lp4 (fun(st jk:List ga) (m:Nat) (cw:List lW) L=>(mS L [(0,⟨7,[.agg [.agg [ah D,ah W,ae wd],.ref 1 4 0 cw.length,ah m]],true⟩),(1,⟨4,cw.map fv,true⟩),(26,⟨3,(st.reverse++jk).map mF,true⟩)] [(9,.ref 26 3 0 st.length),(3,.dT f cap),(1,.list 6 (A.map ar)),(0,.aB 0 7 0 0)])) (fun st jk m cw=>abU D W na wd lk (st,m,cw) (yk D W na wd lk ([(A++B,0,av n 0)],n0,cz))/\(∀x∈st,I x)/\m<=4096/\cw.length+im D st<=200000000) (fun st jk m cw=>im D st) ([(A++B,0,av n 0)]) ([]) n0 cz ⟨hE0,fun y hy=>by rw[iM.1 hy];exact hI0,jJ,J⟩ ?_;rintro st jk m cw L1 ⟨hE,hI,hm9,hc9⟩;refine bH ?_;refine aD rfl ?_ ?_<;>intro adu h29
 ·obtain⟨x,st,rfl⟩:∃x s,st=x::s:=by
   cases st with
   |nil=>simp at h29
   |cons x s=>exact⟨x,s,rfl⟩
  have esc:=atN x st jk;have hln:(x::st).length=st.length+1:=rfl;have nT:=hI x aE;have xD:∀y∈st,I y:=fun y hy=>hI y (by simp[hy]);have hlk:=hL.look x nT;have hlx:=(hL.len x nT).1;have bV:=(hL.len x nT).2;have hdx:=hL.dep x nT;have vv:=hL.sp x nT;have hkd:=hL.kd x nT;have hmw:=afJ D x;have hmc:=ac6 (D:=D) (x:=x) (st:=st);have vR:st.length+1<=im D (x::st):=anc (D:=D) (x::st);have zw:=hE.step;have aaz:x.1.take A.length=x.1.take na:=by rw[hna]
  have ayY:x.1.drop A.length=x.1.drop na:=by rw[hna]
  have fw:(x.1.map ar).take A.length=(x.1.take na).map ar:=by rw[hna,List.map_take]
  have edk:(x.1.map ar).drop A.length=(x.1.drop na).map ar:=by rw[hna,List.map_drop]
  have hPt:=am6 (x.1.take na) aab aab (fun s hs=>⟨(vv s (yJ hs)).1.le aj,(vv s (yJ hs)).2⟩);have hPd:=am6 (x.1.drop na) (by rw[jD];omega) (by rw[jD];omega) (fun s hs=>⟨(vv s (yF hs)).1.le aj,(vv s (yF hs)).2⟩);have auM:LV.pure (.agg [.list 6 ((x.1.take na).map ar),.list 6 ((x.1.drop na).map ar),ah 1,ah 0])=true:=aeE (x.1.take na,x.1.drop na,1,0);have awc:LV.pure (.agg [.list 6 ((x.1.take na).map ar),.list 6 ((x.1.drop na).map ar),ah (mG (lk (x.1.take na) (x.1.drop na))),ah (kV (lk (x.1.take na) (x.1.drop na)))])=true:=aeE (x.1.take na,x.1.drop na,mG (lk (x.1.take na) (x.1.drop na)),kV (lk (x.1.take na) (x.1.drop na)));have aIi:aO [.agg [.list 6 ((x.1.take na).map ar),.list 6 ((x.1.drop na).map ar),ah 1,ah 0]]=true:=by simp only[aO,auM,sf]
  have aI1:aO [.agg [.list 6 ((x.1.take na).map ar),.list 6 ((x.1.drop na).map ar),ah (mG (lk (x.1.take na) (x.1.drop na))),ah (kV (lk (x.1.take na) (x.1.drop na)))]]=true:=by simp only[aO,awc,sf]
  have hpt:=eY bj 6 (x.1.take na);have hpd:=eY bj 6 (x.1.drop na);have ayf:(cw.map fv).take cw.length=cw.map fv:=cy aE;refine bH ?_;refine jc ?_
  try refine aJ ?_
  refine al rfl (.wL rfl apG aau rfl xZ xZ) ?_
  try refine aJ ?_
  refine al rfl (.fa (b:=26) (sz:=3) (i:=st.length) (o:=0) (x:=mF x) (r:=mF x) (n:=3) (ag:=true) rfl rfl rfl (aME x st jk) (agd.aq _) (cU (agd.aq _) rfl) aau) ?_;refine bM ?_;refine jc ?_;refine al rfl (.ahJ rfl apG aau rfl om om) ?_;refine bM ?_
  try refine aJ ?_
  refine al rfl (by first|exact .avw (h:=A.length) bj rfl nF lF rfl om|exact .ahJ rfl nF lF rfl om om) ?_
  try refine aJ ?_
  refine cp cr (hPt) ?_;refine aK ?_
  try refine aJ ?_
  refine al rfl (.ad9 (a:=A.length) bj rfl nF lF rfl om) ?_
  try refine aJ ?_
  refine cp cr (hPd) ?_;refine nn ?_;refine aD rfl ?_ ?_<;>intro aqX jl
  ·have aeD:W<=m:=J;refine bn ?_;refine gE 7 [0] aG ?_;refine a6 ?_
   try refine aJ ?_
   refine gv rfl rfl (abQ (z:=fv ([],[],0,0)) (v:=.agg [.list 6 ((x.1.take na).map ar),.list 6 ((x.1.drop na).map ar),ah 1,ah 0]) uW acw rfl rfl uR rfl rfl rfl auM aj aj) ?_;refine cj rfl (.eU (d:=1) (news:=[.agg [.list 6 ((x.1.take na).map ar),.list 6 ((x.1.drop na).map ar),ah 1,ah 0]]) rfl rfl rfl rfl aE (.inl rfl) aj uW uW acw uR rfl B53 (.inl ⟨70,0,_,rfl,by decide,rfl,rfl,by simp,rfl,aIi⟩) aQ aQ aj) ?_
   try refine aJ ?_
   refine bc ?_
   try refine aJ ?_
   refine bK ?_;exact uv st (x::jk) m (cw++[rq na x (false,0,0)]) ⟨(aul (D:=D) (wd:=wd) aeD▸zw),xD,hm9,aqN⟩ (he:=((((au.kill _ 10).trans (au.kill _ 11)).trans (au.kill _ 70))).trans (au.of_eq (aX (aX (aX (aX (jB vY) cl) cl) cl) cl)))
  have aeD:¬W<=m:=J;refine bH ?_;refine lG ?_;refine bG ?_
  try refine aJ ?_
  refine qk [] rfl rfl (.dT (f:=f) (cap:=cap) (args:=[.list 6 ((x.1.take na).map ar),.list 6 ((x.1.drop na).map ar)]) rfl (.cons (.pure hpt) (.cons (.pure hpd) .nil)) ⟨dZ,hcs⟩ hlk.1 aj (fun _ h=>by cases h)) (hlk.2 _) ?_;refine bN ?_;refine aD rfl ?_ ?_<;>intro aL8 h88
  ·refine aK ?_;exact uv st (x::jk) (m+1) cw ⟨(au9 (D:=D) (wd:=wd) aeD h88▸zw),xD,J,J⟩ (he:=((((au.kill _ 10).trans (au.kill _ 11)).trans (au.kill _ 12))).trans (au.of_eq (aX (aX (aX (aX (jB vY) cl) cl) cl) cl)))
  refine aK ?_;refine cO (au.cx (t:=12) (b:=12) rfl rfl rfl rfl rfl) ?_
  try refine aJ ?_
  refine aW ?_;refine iZ (fun L=>∃  (L1:St),(True)/\L=(mS L1 [(0,⟨7,[.agg [.agg [ah D,ah W,ae wd],.ref 1 4 0 cw.length,ah (m+1)]],true⟩),(1,⟨4,cw.map fv,true⟩),(26,⟨3,(st.reverse++(x::jk)).map mF,true⟩),(10,⟨3,[.agg [.list 6 (x.1.map ar),ah x.2.1,.list 1 (x.2.2.map eE)]],true⟩),(11,⟨4,[.agg [.list 6 ((x.1.take na).map ar),.list 6 ((x.1.drop na).map ar),ah (mG (lk (x.1.take na) (x.1.drop na))),ah (kV (lk (x.1.take na) (x.1.drop na)))]],true⟩)] [(11,.aB 11 4 0 0),(10,.aB 10 3 0 0),(9,.ref 26 3 0 st.length),(3,.dT f cap),(1,.list 6 (A.map ar)),(0,.aB 0 7 0 0)])) ?_ ?_
  ·refine aD rfl ?_ ?_<;>intro aRf h91
   ·have ekv:mG (lk (x.1.take na) (x.1.drop na))=(lk (x.1.take na) (x.1.drop na)).2.1:=if_neg J;have ekK:kV (lk (x.1.take na) (x.1.drop na))=(lk (x.1.take na) (x.1.drop na)).2.2:=if_neg J;refine ack ?_;refine fx 0 rfl rfl aG (.pure l5) gu fy ?_;refine fx 1 rfl rfl aG (.pure gJ) gu fy ?_;refine fx 2 rfl rfl aG (.pure l5) gu fy ?_;refine fx 3 rfl rfl aG (.pure gJ) gu fy ?_;refine di 4 _ aG rfl ?_;refine eT ?_;refine ac4 ?_;refine di 7 _ aG rfl ?_;refine eT ?_;refine pb aG ?_;refine bn ?_;exact tT
   have ekv:mG (lk (x.1.take na) (x.1.drop na))=1:=if_pos J;have ekK:kV (lk (x.1.take na) (x.1.drop na))=0:=if_pos J;refine bc ?_;exact tT
  rintro _ ⟨aQS,-,rfl⟩;refine bK ?_;refine dU 101 rfl ?_ ?_<;>intro aRh aP8
  ·refine bf (vE) ?_;refine bc ?_;refine dU 115 rfl ?_ ?_<;>intro aNv ae7
   ·refine zd ?_;refine gE 7 [0] aG ?_;refine a6 ?_
    try refine aJ ?_
    refine adw ?_
    try refine aJ ?_
    refine bc ?_
    try refine aJ ?_
    refine bK ?_;exact aeq
   refine aN (auR x.1 wd J (fun s hs=>(vv s hs).1.le aj) J) ?_;refine aK ?_;refine dU 127 rfl ?_ ?_<;>intro aKS aeX
   ·refine dj ?_;refine gE 7 [0] aG ?_;refine a6 ?_
    try refine aJ ?_
    refine adw ?_
    try refine aJ ?_
    refine bc ?_
    try refine aJ ?_
    refine bK ?_;exact aeq
   refine bN ?_;refine aD rfl ?_ ?_<;>intro ao7 aps
   ·refine bn ?_;refine gE 7 [0] aG ?_;refine a6 ?_
    try refine aJ ?_
    refine adw ?_
    try refine aJ ?_
    refine bc ?_
    try refine aJ ?_
    refine bK ?_;exact aeq
   have hmh:=akB (D:=D) (x:=x) (st:=st) J;have ke:qx D wd x (lk (x.1.take na) (x.1.drop na))=false:=by first|exact anS ae7 (by simpa using aeX) J|exact amS J J
   refine ap3 ?_
   try refine aJ ?_
   refine cj rfl anG ?_;refine aK ?_;exact uv (nJ x::n5 x::st) ([]) (m+1) cw ⟨(aj5 (D:=D) (wd:=wd) aeD h88 ke▸zw),fun y hy=>by
    simp only[dS]at hy;rcases hy with rfl|rfl|hy
    ·exact(hL.half x nT J).1
    ·exact(hL.half x nT J).2
    exact xD y hy,J,J⟩ (he:=((((((au.kill _ 10).trans (au.kill _ 11)).trans (au.kill _ 14)).trans (au.kill _ 15)).trans (au.kill _ 155))).trans (au.of_eq (aX (aX (aX (aX (jB vY) cl) cl) cl) cl)))
  refine bG ?_;refine dU 107 rfl ?_ ?_<;>intro aQ1 aP6
  ·refine bf (vE) ?_;refine bc ?_;refine dU 115 rfl ?_ ?_<;>intro aNv ae7
   ·refine zd ?_;refine gE 7 [0] aG ?_;refine a6 ?_
    try refine aJ ?_
    refine adw ?_
    try refine aJ ?_
    refine bc ?_
    try refine aJ ?_
    refine bK ?_;exact aeq
   refine aN (auR x.1 wd J (fun s hs=>(vv s hs).1.le aj) J) ?_;refine aK ?_;refine dU 127 rfl ?_ ?_<;>intro aKS aeX
   ·refine dj ?_;refine gE 7 [0] aG ?_;refine a6 ?_
    try refine aJ ?_
    refine adw ?_
    try refine aJ ?_
    refine bc ?_
    try refine aJ ?_
    refine bK ?_;exact aeq
   refine bN ?_;refine aD rfl ?_ ?_<;>intro ao7 aps
   ·refine bn ?_;refine gE 7 [0] aG ?_;refine a6 ?_
    try refine aJ ?_
    refine adw ?_
    try refine aJ ?_
    refine bc ?_
    try refine aJ ?_
    refine bK ?_;exact aeq
   have hmh:=akB (D:=D) (x:=x) (st:=st) J;have ke:qx D wd x (lk (x.1.take na) (x.1.drop na))=false:=by first|exact anS ae7 (by simpa using aeX) J|exact amS J J
   refine ap3 ?_
   try refine aJ ?_
   refine cj rfl anG ?_;refine aK ?_;exact uv (nJ x::n5 x::st) ([]) (m+1) cw ⟨(aj5 (D:=D) (wd:=wd) aeD h88 ke▸zw),fun y hy=>by
    simp only[dS]at hy;rcases hy with rfl|rfl|hy
    ·exact(hL.half x nT J).1
    ·exact(hL.half x nT J).2
    exact xD y hy,J,J⟩ (he:=((((((au.kill _ 10).trans (au.kill _ 11)).trans (au.kill _ 14)).trans (au.kill _ 15)).trans (au.kill _ 155))).trans (au.of_eq (aX (aX (aX (aX (jB vY) cl) cl) cl) cl)))
  refine azO ?_;refine aD rfl ?_ ?_<;>intro ao7 aps
  ·refine bn ?_;refine gE 7 [0] aG ?_;refine a6 ?_
   try refine aJ ?_
   refine adw ?_
   try refine aJ ?_
   refine bc ?_
   try refine aJ ?_
   refine bK ?_;exact aeq
  have hmh:=akB (D:=D) (x:=x) (st:=st) J;have ke:qx D wd x (lk (x.1.take na) (x.1.drop na))=false:=by first|exact anS ae7 (by simpa using aeX) J|exact amS J J
  refine ap3 ?_
  try refine aJ ?_
  refine cj rfl anG ?_;refine aK ?_;exact uv (nJ x::n5 x::st) ([]) (m+1) cw ⟨(aj5 (D:=D) (wd:=wd) aeD h88 ke▸zw),fun y hy=>by
   simp only[dS]at hy;rcases hy with rfl|rfl|hy
   ·exact(hL.half x nT J).1
   ·exact(hL.half x nT J).2
   exact xD y hy,J,J⟩ (he:=((((((au.kill _ 10).trans (au.kill _ 11)).trans (au.kill _ 14)).trans (au.kill _ 15)).trans (au.kill _ 155))).trans (au.of_eq (aX (aX (aX (aX (jB vY) cl) cl) cl) cl)))
 obtain rfl:st=[]:=by
  cases st with
  |nil=>rfl
  |cons x s=>simp at h29
 have hR:=hE.nil;refine aK ?_;rw[hR];refine⟨_,au.kill _ 26,?_⟩;refine aJ ?_;exact aFu rfl rfl (by show (⟨_,_,_⟩:aV)=⟨_,_,_⟩;simp only[dL,LV.b8,my,ah,LV.db (rJ [1]) (ae wd) (ao.pure wd)];rfl) aE rfl (ab8 _) rfl
theorem aDG{l:List (Nat×aV)}{c:Nat}(h:∀x∈l.map (·.1),x≠c):hp l c=none:=by
 induction l with
 |nil=>rfl
 |cons q t ih =>
  obtain⟨d,y⟩:=q;have e:oV c d=false:=by
   rw[<-y9,uy];exact fun e=>h d aE e.symm
  simp only[hp,e,cond_false];exact ih fun x hx=>h x (by simp only[nK,dS];exact .inr hx)
abbrev qG:=Nat×List lW
def ti(d w:Nat)(wd:Rat)(lk:dP->dP->mC)(dm:dP->Sp)(c e:dP)(s:qG):qG:=(yk d w 1 wd (lk c e) ([([dm c]++[dm e],0,av 2 0)],s.1,s.2)).2
def ry(d w:Nat)(wd:Rat)(lk:dP->dP->mC)(dm:dP->Sp)(c:dP)(l:List dP)(s:qG):qG:=l.foldl (fun s e=>ti d w wd lk dm c e s) s
def qw(d w:Nat)(wd:Rat)(lk:dP->dP->mC)(dm:dP->Sp)(l m:List dP)(s:qG):qG:=l.foldl (fun s c=>ry d w wd lk dm c m s) s
theorem aLf{D W na:Nat}{wd:Rat}{lk:mC}(C:Nat){s:RunT}(hW:W<=4096)(h1:s.2.1<=4096)(h:s.2.2.length+im D s.1<=C):(yk D W na wd lk s).2.1<=4096/\(yk D W na wd lk s).2.2.length<=C:=by
 have:=(ajP (D:=D) (W:=W) (na:=na) (wd:=wd) (lk:=lk) (fun s=>s.2.1<=4096/\s.2.2.length+im D s.1<=C) (fun x st n cs hI=>by
  have hs:=aoV (D:=D) (W:=W) (na:=na) (wd:=wd) (lk:=lk) (x:=x) (st:=st) (n:=n) (cs:=cs);have hl:(qn D W na wd lk (x::st,n,cs)).2.2.length<=cs.length+1:=by
   rw[qn];split
   ·simp
   split
   ·simp
   split<;>simp
  have hn:(qn D W na wd lk (x::st,n,cs)).2.1<=4096:=by
   have rG:n<=4096:=hI.1;rw[qn];split
   ·exact rG
   split
   ·show n+1<=4096;omega
   split<;>(show n+1<=4096;omega)
  have uc:cs.length+im D (x::st)<=C:=hI.2;exact⟨hn,J⟩) (im D s.1) (bF _) ⟨h1,h⟩ (ahR D W na wd lk s)).1
 exact⟨this.1,by have:=this.2;omega⟩
theorem apV{d w:Nat}{wd:Rat}{lk:dP->dP->mC}{dm:dP->Sp}{c e:dP}{s:qG}(hd:d<=10)(hW:w<=4096)(h1:s.1<=4096){m:Nat}(h:s.2.length<=m):(ti d w wd lk dm c e s).1<=4096/\(ti d w wd lk dm c e s).2.length<=m+2048:=by
 refine aLf (m+2048) hW h1 ?_;have hp:2^(d-0)<=2^10:=mN aj J;have e10:(2:Nat)^10=1024:=rfl;show s.2.length+((2*2^(d-0)-1)+0)<=_;omega
theorem auT{d w:Nat}{wd:Rat}{lk:dP->dP->mC}{dm:dP->Sp}{c:dP}{l:List dP}{j:Nat}{s:qG}(h:j<l.length):ry d w wd lk dm c (l.drop j) s=ry d w wd lk dm c (l.drop (j+1)) (ti d w wd lk dm c (l.getD j default) s):=by
 rw[xR h,bq,ck h];rfl
theorem aBL{d w:Nat}{wd:Rat}{lk:dP->dP->mC}{dm:dP->Sp}{l m:List dP}{j:Nat}{s:qG}(h:j<l.length):qw d w wd lk dm (l.drop j) m s=qw d w wd lk dm (l.drop (j+1)) m (ry d w wd lk dm (l.getD j default) m s):=by
 rw[xR h,bq,ck h];rfl
theorem aue{P:Program}{L L0:St}{id:Nat}{ops:Array Oper}{d:Bool}{Q:lR->St->Prop}(hw:au L L0)(h:c9 P (.region id ops d) Q L0):c9 P (.region id ops d) Q L:=by
 unfold c9 at h ⊢;obtain⟨L1,h1,h2⟩:=h;exact⟨L1,hw.trans h1,h2⟩
theorem aLH{L:St}{b4 b14:aV}{p:LV}{m n:Nat}{l:List lW}(xo:p.pure=true)(h4:aO b4.vals=true)(jI:aO b14.vals=true)
  (hL:L.heap=hp [(4,b4),(42,⟨7,[.agg [p,.ref 1001041 4 0 m,ah n]],true⟩),(14,b14),(1001041,⟨4,l.map fv,true⟩)]) :
  au L ⟨fun t=>((L.slot t).kill 144).b8 (kg 1001041 144),hp [(4,b4),(42,⟨7,[.agg [p,.ref 144 4 0 m,ah n]],true⟩),(144,⟨4,l.map fv,true⟩),(14,b14)]⟩:=by
 refine(au.aOY (b:=1001041) (b':=144) hL aj aj aj).trans (au.of_eq ?_);simp only[St.mk.injEq,true_and];have hbq:∀a b:Nat,oV a b=(a==b):=fun a b=>by rw[Bool.eq_iff_iff,uy,beq_iff_eq]
 have k4:bC 144 b4.vals=b4.vals:=adI 144 _ h4;have k14:bC 144 b14.vals=b14.vals:=adI 144 _ jI;have kc:bC 144 (l.map fv)=l.map fv:=dO abT ..;have kr:bC 144 [LV.agg [p,.ref 1001041 4 0 m,ah n]]=[LV.agg [p,.ref 1001041 4 0 m,ah n]]:=by
  simp only[bC,LV.kill,LV.oH _ _ xo,ah];rfl
 have r4:dL (kg 1001041 144) b4.vals=b4.vals:=my _ _ h4;have r14:dL (kg 1001041 144) b14.vals=b14.vals:=my _ _ jI;have rc:dL (kg 1001041 144) (l.map fv)=l.map fv:=my _ _ (ab8 _);have rr:dL (kg 1001041 144) [LV.agg [p,.ref 1001041 4 0 m,ah n]]=[LV.agg [p,.ref 144 4 0 m,ah n]]:=by
  simp only[dL,LV.b8,LV.db _ _ xo,ah];rfl
 refine wN ?_ ?_
 all_goals
  simp only[rj,hbq,bh,cond_false,cond_true,nK,gy,k4,k14,kc,kr,r4,r14,rc,rr];simp only[kg,dC,reduceIte,aip,hp,hbq,bh,cond_false,cond_true,and_self]
theorem axE{l:List dP}{i:Nat}(h:i<l.length):(l.map cR)[((i:Nat):Int).toNat]?=some (cR (l.getD i default)):=by
 rw[Int.toNat_natCast,jY,bq,ck h];rfl
section
attribute [local irreducible] cR
namespace aui
theorem aJ{p q:Prop}(k:q)(e:p=q:=by simp only[bD,bo,bp,bh,hc5,hc7,fy0,fyc,hnM,my _ _ (ab8 _),cC,jt,dR,fX,fD,gy,gU,ey,dO bj,dO abT,List.getD_cons_zero,List.getD_cons_succ,dD,du,dC,reduceIte,if_true,if_false,dW,LV.kill,bC,aon,dO dG];exact rfl):p:=e.mpr k
end aui
open aui in
theorem aFv(d1 d2:Nat)(k1 k2:List Rat)(bg a9:List aF)(lr:bg.length<=1000)(oK:a9.length<=1000)(ri:∀x∈bg,x.p.z=0)(yG:∀x∈a9,x.p.z=0)(CA CB:List dP)(hA:CA.length<=10)(hB:CB.length<=10)(d w:Nat)(wd:Rat)(hd:d<=10)(hw:w<=4096)(uX:rl wd<=100)(lk:dP->dP->mC)(dm:dP->Sp)(I:dP->dP->ga->Prop)(qY:an ai 25 [.agg [ah d,ah w,ae wd]] (bL true))(uS:an ai 27 [.agg [ah d1,.list 3 (k1.map ae),.list 12 (bg.map aA)]] (.list 3 (CA.map cR)))(uD:an ai 27 [.agg [ah d2,.list 3 (k2.map ae),.list 12 (a9.map aA)]] (.list 3 (CB.map cR)))(hD1:∀c∈CA,an ai 29 [cR c] (ar (dm c)))(hD2:∀c∈CB,an ai 29 [cR c] (ar (dm c)))(hLk:∀c∈CA,∀e∈CB,afh ai 30 [.cx (cR c),.cx (cR e)] d 1 2 (lk c e) (I c e))(hI0:∀c∈CA,∀e∈CB,I c e ([dm c]++[dm e],0,av 2 0)):an ai 10 [.agg [ah d1,.list 3 (k1.map ae),.list 12 (bg.map aA)],.agg [ah d2,.list 3 (k2.map ae),.list 12 (a9.map aA)],.agg [ah d,ah w,ae wd]] (.aY [.list 4 ((qw d w wd lk dm CA CB (0,[])).2.map fv),iL 0]):=by
 have hc5:(LV.agg [ah d,ah w,ae wd]).aq=5:=by simp[LV.aq,dg,ao.aq]
 have hc7:(LV.agg [.agg [ah d,ah w,ae wd],.v (.slice none 0 0),ah 0]).aq=7:=by simp[LV.aq,dg,ao.aq]
 have abr:LV.pure (.agg [ah d1,.list 3 (k1.map ae),.list 12 (bg.map aA)])=true:=eN;have aat:LV.pure (.agg [ah d2,.list 3 (k2.map ae),.list 12 (a9.map aA)])=true:=eN;have kI:LV.pure (.agg [ah d,ah w,ae wd])=true:=aAc d w wd;have hS0:∀x:aF,x.p.z=0->an ai 26 [ae x.p.z] (iL 0):=fun x h=>by
  rw[h];have:=wF 0 (by have:rl 0=1:=rfl;omega);rwa[show cq 0=0 from by decide +kernel]at this
 have hbR:∀m n:Nat,dL (nmC 42 144 65) [.agg [.agg [ah d,ah w,ae wd],.ref 1 4 0 m,ah n]]=[.agg [.agg [ah d,ah w,ae wd],.ref 144 4 0 m,ah n]]:=fun m n=>by
  simp only[dL,LV.b8,ah,LV.db _ (ae wd) (ao.pure wd)];rfl
 have hnR:∀m n:Nat,dL (kY 42 65) [.agg [.agg [ah d,ah w,ae wd],.ref 1 4 0 m,ah n]]=[.agg [.agg [ah d,ah w,ae wd],.ref 1001041 4 0 m,ah n]]:=fun m n=>by
  simp only[dL,LV.b8,ah,LV.db _ (ae wd) (ao.pure wd)];rfl
 have hnM:∀m n:Nat,dL (kg 1001041 144) [.agg [.agg [ah d,ah w,ae wd],.ref 1001041 4 0 m,ah n]]=[.agg [.agg [ah d,ah w,ae wd],.ref 144 4 0 m,ah n]]:=fun m n=>by
  simp only[dL,LV.b8,ah,LV.db _ (ae wd) (ao.pure wd)];rfl
 have hnC:∀l:List lW,dL (kY 42 65) (l.map fv)=l.map fv:=fun l=>my _ _ (ab8 _);have apE:=eY dG 3 CA;have anh:=eY dG 3 CB;have lK:kY 42 65 1=1001041:=rfl;refine aL Tryz.func10 (ht:=(iz (by simp only[LV.pure,ab8]) rfl)) ?_;refine dj ?_;refine dN rfl (.cons (.pure kI) .nil) (qY) ?_;refine bI ?_;refine vM ?_;refine bK ?_;refine al rfl (abl (v0:=.agg [ah d1,.list 3 (k1.map ae),.list 12 (bg.map aA)]) (v1:=.agg [ah d2,.list 3 (k2.map ae),.list 12 (a9.map aA)]) zF fo Z73 lz rfl rfl lz lz abr aat) ?_;refine nR ?_;refine a6 ?_
 first|refine al rfl (.yj rfl zF fo rfl rfl aj rfl abr) ?_|refine al rfl (.yj rfl zF fo rfl rfl aj rfl aat) ?_
 refine asN ?_;rintro i L2 hi;refine a6 ?_;refine aD rfl ?_ ?_<;>intro abK yq
 ·have cM:i<bg.length:=J;have vE:=hS0 _ (ri _ (qo cM));refine bf (vE) ?_;refine bI ?_;refine vM ?_;refine bI ?_;refine cO (au.kill _ 11) ?_;refine eP ?_;exact gM
 refine a6 ?_;refine cO (au.kill _ 9) ?_;refine nR ?_;refine a6 ?_
 first|refine al rfl (.yj rfl zF fo rfl rfl aj rfl abr) ?_|refine al rfl (.yj rfl zF fo rfl rfl aj rfl aat) ?_
 refine dj ?_;refine iS (au.kill _ 9) ?_;refine dy (fun(i:Nat) L=>(mS L [(3,⟨3,[.agg [ah d1,.list 3 (k1.map ae),.list 12 (bg.map aA)]],true⟩),(4,⟨3,[.agg [ah d2,.list 3 (k2.map ae),.list 12 (a9.map aA)]],true⟩),(5,⟨5,[.agg [ah d,ah w,ae wd]],true⟩)] [(29,ah i),(28,ah a9.length),(27,.list 12 (a9.map aA)),(23,ah 1),(22,.agg [.agg [ah d1,.list 3 (k1.map ae),.list 12 (bg.map aA)],.agg [ah d2,.list 3 (k2.map ae),.list 12 (a9.map aA)]]),(5,.aB 5 5 0 0),(4,.aB 4 3 0 0),(3,.aB 3 3 0 0)])) (fun i=>i<=a9.length) (fun i=>a9.length-i) 0 (bW _) ?_;rintro i L2 hi;refine a6 ?_;refine aD rfl ?_ ?_<;>intro abK yq
 ·have cM:i<a9.length:=J;have vE:=hS0 _ (yG _ (qo cM));refine bf (vE) ?_;refine bI ?_;refine vM ?_;refine bI ?_;refine cO (au.kill _ 11) ?_;refine eP ?_;exact gM
 refine a6 ?_;refine cO (au.kill _ 9) ?_;refine aK ?_;refine pa ?_;refine bH ?_;refine al rfl (show aM _ _ _ _ (.agg [.agg [ah d,ah w,ae wd],.v (.slice none 0 0),ah 0]) from .build (zs:=[.agg [.v (.int .i64 0),.v (.int .i64 0),ae 0],.v (.slice none 0 0),.v (.int .i64 0)]) (by simpa[lay,LV.aq,dg,LV.isAgg,ao.aq]using asQ) Z77 (by simp only[List.forall_mem_cons];exact⟨⟨_,rfl,(show lay (.agg [ah d,ah w,ae wd])=lay (.agg [.v (.int .i64 0),.v (.int .i64 0),ae 0]) by simp[lay,LV.aq,dg,LV.isAgg,ao.aq]),ni⟩,fun _ h=>by cases h⟩)) ?_;refine bf (uS) ?_;refine aW ?_;refine iS (au.kill _ 3) ?_;refine iS (au.kill _ 5) ?_;refine iS (au.aJO (b:=42) (d:=144) (csz:=4) aj rfl rfl (fun Z μ w part h=>aPb (d:=144) (c:=4) Z μ w part h)) ?_
 refine kR (fun(i:Nat) (s:qG) L=>(mS L [(4,⟨3,[.agg [ah d2,.list 3 (k2.map ae),.list 12 (a9.map aA)]],true⟩),(42,⟨7,[.agg [.agg [ah d,ah w,ae wd],.ref 144 4 0 s.2.length,ah s.1]],true⟩),(144,⟨4,s.2.map fv,true⟩)] [(46,ah i),(45,ah CA.length),(44,.list 3 (CA.map cR)),(12,.aB 42 7 0 0),(4,.aB 4 3 0 0)])) (fun i s=>i<=CA.length/\qw d w wd lk dm (CA.drop i) CB s=qw d w wd lk dm CA CB (0,[])/\s.1<=4096/\s.2.length<=i*20480) (fun i s=>CA.length-i) 0 (0,[]) ⟨bW _,rfl,bW _,bW _⟩ ?_;rintro i s L3 ⟨hi,hR,mb,yE⟩;refine a6 ?_;refine aD rfl ?_ ?_<;>intro afH h47
 ·have cM:i<CA.length:=J;have hcA:=ak2 cM;have an7:=hD1 _ hcA;refine a6 ?_;refine al rfl aru ?_
  try refine aJ ?_
  refine al rfl (.aco dG rfl fo) ?_;refine bn ?_
  try refine aJ ?_
  refine cj rfl (.store rfl rfl rfl rfl rfl rfl (aa5 _ _ (dG.aq _).symm (dG.isAgg _).symm) (show bS _ _ (cR (CA.getD i default)).aq (cR (CA.getD i default)).isAgg by rw[dG.aq,dG.isAgg];exact fo) ⟨LV.fJ (dG.pure _),LV.fh (dG.pure _)⟩) ?_;refine bf (uD) ?_;refine aW ?_;refine iS (au.b9 (t:=46) (x:=ah i) (y:=ah i) [14] rfl rfl (.pure rfl)) ?_;refine kR (fun(j:Nat) (r:qG) L=>(mS L [(4,⟨3,[.agg [ah d2,.list 3 (k2.map ae),.list 12 (a9.map aA)]],true⟩),(42,⟨7,[.agg [.agg [ah d,ah w,ae wd],.ref 144 4 0 r.2.length,ah r.1]],true⟩),(144,⟨4,r.2.map fv,true⟩),(14,⟨3,[cR (CA.getD i default)],false⟩)] [(53,ah j),(52,ah CB.length),(51,.list 3 (CB.map cR)),(46,ah i),(45,ah CA.length),(44,.list 3 (CA.map cR)),(14,.aB 14 3 0 0),(12,.aB 42 7 0 0),(4,.aB 4 3 0 0)])) (fun j r=>j<=CB.length/\ry d w wd lk dm (CA.getD i default) (CB.drop j) r=ry d w wd lk dm (CA.getD i default) CB s/\r.1<=4096/\r.2.length<=i*20480+j*2048) (fun j r=>CB.length-j) 0 s ⟨bW _,rfl,mb,J⟩ ?_;rintro j r L4 ⟨hj,hQ,fR,mw⟩;refine a6 ?_;refine aD rfl ?_ ?_<;>intro aEw h54
  ·have iH:j<CB.length:=J;have hcB:=ak2 iH;have aqJ:=hD2 _ hcB;have aof:LV.pure (cR (CA.getD i default))=true:=dG.pure _;have aCl:LV.pure (cR (CB.getD j default))=true:=dG.pure _;have hQ2:ry d w wd lk dm (CA.getD i default) (CB.drop (j+1)) (ti d w wd lk dm (CA.getD i default) (CB.getD j default) r)=ry d w wd lk dm (CA.getD i default) CB s:=by rw[<-auT iH];exact hQ
   obtain⟨xH,hb2⟩:=apV (wd:=wd) (lk:=lk) (dm:=dm) (c:=(CA.getD i default)) (e:=(CB.getD j default)) hd hw fR mw;have dZ:aO ([.cx (cR (CA.getD i default)),.cx (cR (CB.getD j default))]:List LV)=true:=by simp only[aO,LV.pure,aof,aCl,sf]
   have hcs:∀x∈([.cx (cR (CA.getD i default)),.cx (cR (CB.getD j default))]:List LV),x.aq=1/\x.isAgg=false:=fun x hx=>by
    simp only[dS,jR,or_false]at hx;rcases hx with e|e<;>rw[e]<;>exact⟨rfl,rfl⟩
   have aIm:=aDz 30 1 2 d w ([.cx (cR (CA.getD i default)),.cx (cR (CB.getD j default))]:List LV) (lk (CA.getD i default) (CB.getD j default)) (I (CA.getD i default) (CB.getD j default)) (hLk _ hcA _ hcB) dZ hcs [dm (CA.getD i default)] [dm (CB.getD j default)] rfl aE aE rfl aj (hI0 _ hcA _ hcB) wd uX r.1 r.2 J hw fR J;refine a6 ?_;refine al rfl arB ?_
   try refine aJ ?_
   refine al rfl (.aco dG rfl fo) ?_;refine bn ?_
   try refine aJ ?_
   refine cj rfl (.store rfl rfl rfl rfl rfl rfl (aa5 _ _ (dG.aq _).symm (dG.isAgg _).symm) (show bS _ _ (cR (CB.getD j default)).aq (cR (CB.getD j default)).isAgg by rw[dG.aq,dG.isAgg];exact fo) ⟨LV.fJ (dG.pure _),LV.fh (dG.pure _)⟩) ?_;refine bc ?_;refine aEg rfl 8 aG rfl ?_;simp only[qS,tn];refine bn ?_
   try refine aJ ?_
   refine al rfl (.fa (b:=14) (sz:=3) (i:=0) (o:=0) (x:=cR (CA.getD i default)) (r:=cR (CA.getD i default)) (n:=3) (ag:=true) rfl rfl rfl rfl (dG.aq _) (cU (dG.aq _) (dG.isAgg _)) fo) ?_;refine cp cr (an7) ?_
   try refine aJ ?_
   refine gv rfl rfl (.aq5 (a:=dm (CA.getD i default)) (z:=(0,0)) bj nF yN lF rfl aj aj) ?_
   try refine aJ ?_
   refine al rfl (.fa (b:=16) (sz:=3) (i:=0) (o:=0) (x:=cR (CB.getD j default)) (r:=cR (CB.getD j default)) (n:=3) (ag:=true) rfl rfl rfl rfl (dG.aq _) (cU (dG.aq _) (dG.isAgg _)) fo) ?_;refine cp cr (aqJ) ?_
   try refine aJ ?_
   refine gv rfl rfl (.aq5 (a:=dm (CB.getD j default)) (z:=(0,0)) bj nF yN lF rfl aj aj) ?_
   try refine aJ ?_
   refine qk [14,16,60,63] rfl rfl (.mk (caps:=([.cx (cR (CA.getD i default)),.cx (cR (CB.getD j default))]:List LV)) (.cons (.aB rfl rfl rfl (dG.aq _) (cU (dG.aq _) (dG.isAgg _)) aof rfl) (.cons (.aB rfl rfl rfl (dG.aq _) (cU (dG.aq _) (dG.isAgg _)) aCl rfl) .nil)) hcs) rfl ?_
   try refine aJ ?_
   refine aGL rfl (an8 (f:=28) (b:=42) (c:=144) (sz:=7) (csz:=4) (vals:=[.agg [.agg [ah d,ah w,ae wd],.ref 1 4 0 r.2.length,ah r.1]]) (cvals:=r.2.map fv) 65 rfl aj aj (by rw[hbR];rfl) (by rw[my _ _ (ab8 _)];rfl) (.cons (.b8 (y:=.aB 0 7 0 0) ⟨by simp,by simp⟩) (.cons (.dH (.ref (blk:=⟨6,[ar (dm (CA.getD i default))],false⟩) rfl rfl (by simp[aO,bj.pure]) aE rfl)) (.cons (.dH (.ref (blk:=⟨6,[ar (dm (CB.getD j default))],false⟩) rfl rfl (by simp[aO,bj.pure]) aE rfl)) (.cons (.dH (.pure (show LV.pure (.dT 30 ([.cx (cR (CA.getD i default)),.cx (cR (CB.getD j default))]:List LV))=true by simpa[LV.pure]using dZ))) .nil)))) .ptr aIm aE (fun k hk=>aDG aqi)) ?_;simp only[vk,lK,hnR,hnC];refine aJ ?_;refine bc ?_;refine aue (((au.kill _ 16).trans (au.kill _ 60)).trans (au.kill _ 63)) ?_
   try refine aJ ?_
   refine aue (aLH kI (by simp only[aO,aat,sf]) (by simp only[aO,aof,sf]) rfl) ?_
   try refine aJ ?_
   refine nL ?_;exact ja (j+1) (ti d w wd lk dm (CA.getD i default) (CB.getD j default) r) ⟨J,hQ2,xH,J⟩ (he:=au.of_eq (aX (aX (aX (aX (aX (aX (aX (aX (aX (jB vY) cl) cl) cl) (show LV.b8 (kg 1001041 144) (LV.kill 144 (LV.list 3 (CA.map cR)))=LV.list 3 (CA.map cR) from by rw[LV.oH _ _ apE,LV.db _ _ apE])) cl) cl) (show LV.b8 (kg 1001041 144) (LV.kill 144 (LV.list 3 (CB.map cR)))=LV.list 3 (CB.map cR) from by rw[LV.oH _ _ anh,LV.db _ _ anh])) cl) cl))
  obtain rfl:CB.length=j:=J;have tL:r=ry d w wd lk dm (CA.getD i default) CB s:=by rw[<-hQ,abX];rfl
  have hR2:qw d w wd lk dm (CA.drop (i+1)) CB r=qw d w wd lk dm CA CB (0,[]):=by rw[tL,<-aBL cM];exact hR
  refine a6 ?_;refine cO (au.kill _ 14) ?_;refine eP ?_;exact ja (i+1) r ⟨J,hR2,fR,J⟩
 obtain rfl:CA.length=i:=J;have hR3:s=qw d w wd lk dm CA CB (0,[]):=by rw[<-hR,abX];rfl
 refine lN ?_;subst hR3;exact adC [144] rfl rfl (da (l:=(qw d w wd lk dm CA CB (0,[])).2) abT rfl rfl rfl) rfl (.pure rfl)
end
theorem aNu{P:Program}{H:cd}{ρ:Operand->LV}{T:TypeId}[z:ZI P T (.agg [.agg [aR ⟨0,0,0⟩,aR ⟨0,0,0⟩,aR ⟨0,0,0⟩],aR ⟨0,0,0⟩])][s:SI P T [(27,true),(9,true)]]:
  aM P H ρ (.build T #[]) (fT ⟨⟨0,0,0⟩,⟨0,0,0⟩,⟨0,0,0⟩,⟨0,0,0⟩⟩):=by
 have:=aM.bd (H:=H) (ρ:=ρ) (ps:=#[]) (z:=z) (s:=s) (by simp[lay,LV.aq,dg,cu.aq,cu.isAgg,sW]) (by
  intro q hq;simp at hq)
 simp only[kP,oC,tF]at this;exact this
def M30:M3:=⟨⟨0,0,0⟩,⟨0,0,0⟩,⟨0,0,0⟩,⟨0,0,0⟩⟩
def vlM(m:M3):Rat:=cA m.a (iW m.b m.c)
def ot(m:M3):M3:=if vlM m=0 then M30 else ivM m
def ivE(m:M3):Int:=if vlM m=0 then 9 else 0
open ah8 in
theorem aJd(m:M3)(R:Nat)(hR:R<=40000000)(hm:vr R m)(hv:cA m.a (iW m.b m.c)=0):an ai 91 [fT m] (.aY [fT M30,iL 9]):=by
 have iw:=hm;obtain⟨iX,fC,sG,qm⟩:=hm;have lH:=abY fC sG;have hV:=ayx m R J iw;have fR:rl 1=1:=rfl;have hrv:=adn iX lH;have hQ:an ai 159 [ae 1,ae (cA m.a (iW m.b m.c))] (.aY [ae (iN m.a m.b m.c),iL 3]):=by
  have:=zp 1 (cA m.a (iW m.b m.c)) J;rwa[if_pos hv]at this
 have pP:an ai 90 [iL 1] (ae 1):=zV 1 aj aj;refine aL aAe (ht:=(iz (fB.pure _) rfl)) ?_;refine bH ?_;refine gE 8 [6] aG ?_;refine cp cr (pP) ?_;refine al rfl amq ?_;refine dN rfl (.cons (.pure (fB.pure m)) .nil) hV ?_;refine cp aC (hQ) ?_;refine iR ?_;refine qO (b:=_) rfl (rfl) ?_;refine bc ?_;refine al rfl aNu ?_;refine cj rfl (.stE (e:=fT) (l:=[⟨⟨0,0,0⟩,⟨0,0,0⟩,⟨0,0,0⟩,⟨0,0,0⟩⟩]) (a:=M30) rfl rfl rfl aE) ?_;refine aW ?_;exact wO [] rfl rfl rfl (fB.aq M30) (cU (fB.aq M30) rfl) T67 (.pure (fB.pure M30)) rfl (.pure rfl)
theorem aID(m:M3)(R:Nat)(hR:R<=40000000)(hm:vr R m):an ai 91 [fT m] (.aY [fT (ot m),iL (ivE m)]):=by
 by_cases hv:vlM m=0
 ·unfold ot ivE;rw[if_pos hv,if_pos hv];exact aJd m R hR hm hv
 unfold ot ivE;rw[if_neg hv,if_neg hv];exact aOj m R hR hm hv
theorem adM(n:Nat):(ah n).pure=true:=rfl
theorem aPN{m:M3}{R:Nat}(hm:vr R m):cG (24*R+40) (ot m).a/\cG (24*R+40) (ot m).b:=by
 have tY:rl 0=1:=rfl;have fR:rl 1=1:=rfl;unfold ot;split
 ·exact⟨⟨by show rl 0<=_;omega,by show rl 0<=_;omega,by show rl 0<=_;omega⟩,⟨by show rl 0<=_;omega,by show rl 0<=_;omega,by show rl 0<=_;omega⟩⟩
 obtain⟨iX,fC,sG,qm⟩:=hm;have lH:=abY fC sG;have iT:=abY sG iX;have uJ:=abY iX fC;have hrv:=adn iX lH;have hrf:rl (iN m.a m.b m.c)<=20*R+30:=by
  have:=pv 1 (cA m.a (iW m.b m.c));unfold iN;omega
 have rh:∀q:V3,cG (4*R+5) q->cG (24*R+40) (kJ (iN m.a m.b m.c) q):=fun q ⟨vF,q2',q3'⟩=>by
  have e1x:=cF (iN m.a m.b m.c) q.x;have e2x:=cF (iN m.a m.b m.c) q.y;have e3x:=cF (iN m.a m.b m.c) q.z;exact⟨by show rl (iN m.a m.b m.c*q.x)<=_;omega,by show rl (iN m.a m.b m.c*q.y)<=_;omega,by show rl (iN m.a m.b m.c*q.z)<=_;omega⟩
 exact⟨⟨(rh _ lH).1,(rh _ iT).1,(rh _ uJ).1⟩,⟨(rh _ lH).2.1,(rh _ iT).2.1,(rh _ uJ).2.1⟩⟩
theorem aJA{u v:V3}{R:Nat}(hu:cG R u)(hv:cG R v):vr (R+1) (m8 u v):=by
 have e0:rl (-1)=1:=aG;have tY:rl 0=1:=rfl;have fR:rl 1=1:=rfl;have e5:=cF (-1) v.x;have e6:=cF (-1) v.y;obtain⟨u1,u2,u3⟩:=hu;obtain⟨v1,v2,v3⟩:=hv;exact⟨⟨by show rl u.x<=_;omega,by show rl (-1*v.x)<=_;omega,by show rl 0<=_;omega⟩,⟨by show rl u.y<=_;omega,by show rl (-1*v.y)<=_;omega,by show rl 0<=_;omega⟩,⟨by show rl 0<=_;omega,by show rl 0<=_;omega,by show rl 1<=_;omega⟩,⟨by show rl 0<=_;omega,by show rl 0<=_;omega,by show rl 0<=_;omega⟩⟩
theorem alR{l:List aF}{i:Nat}(h:i<l.length):(l.map aF.p).getD i default=(l.getD i default).p:=by
 rw[bq,jY,bq,ck h];rfl
open ah8 in
theorem aFj(d1 d2:Nat)(k1 k2:List Rat)(bg a9:List aF)(S T:ny)(RS:Nat)(hRS:RS<=20000000)(hSb:lL RS S)(hTb:lL RS T)(s t:Sp)(x y:Rat)(u v:V3)(R:Nat)(hR:R<=3700000)(hub:cG R u)(hvb:cG R v)(hlA:0<bg.length)(hlB:0<a9.length)(alx:bg.length<=1000)(amg:a9.length<=1000)(ajv:∀q∈(bg.map aF.p),cG 90000000 q)(aj3:∀q∈(a9.map aF.p),cG 90000000 q)(hS1:an ai 83 [.agg [ah d1,.list 3 (k1.map ae),.list 12 (bg.map aA)]] (iq S))(hS2:an ai 83 [.agg [ah d2,.list 3 (k2.map ae),.list 12 (a9.map aA)]] (iq T))(hD1:an ai 29 [.agg [ah d1,.list 3 (k1.map ae),.list 12 (bg.map aA)]] (ar s))(hD2:an ai 29 [.agg [ah d2,.list 3 (k2.map ae),.list 12 (a9.map aA)]] (ar t))(hM1:an ai 88 [ar s] (ae x))(hM2:an ai 88 [ar t] (ae y))(hT1:an ai 87 [.agg [ah d1,.list 3 (k1.map ae),.list 12 (bg.map aA)],ae x] (.aY [aR u,iL 0]))(hT2:an ai 87 [.agg [ah d2,.list 3 (k2.map ae),.list 12 (a9.map aA)],ae y] (.aY [aR v,iL 0]))(zx:an ai 94 [.agg [ah d1,.list 3 (k1.map ae),.list 12 (bg.map aA)]] (.aY [aR (bg.getD 0 default).p,aR (bg.getD (bg.length-1) default).p]))(w7:an ai 94 [.agg [ah d2,.list 3 (k2.map ae),.list 12 (a9.map aA)]] (.aY [aR (a9.getD 0 default).p,aR (a9.getD (a9.length-1) default).p])):an ai 34 [.agg [ah d1,.list 3 (k1.map ae),.list 12 (bg.map aA)],.agg [ah d2,.list 3 (k2.map ae),.list 12 (a9.map aA)]] (ah (qf S T u v (bg.map aF.p) (a9.map aF.p))):=by
 have abr:LV.pure (.agg [ah d1,.list 3 (k1.map ae),.list 12 (bg.map aA)])=true:=eN;have aat:LV.pure (.agg [ah d2,.list 3 (k2.map ae),.list 12 (a9.map aA)])=true:=eN;have hpD:LV.pure (.agg [.agg [ar S.x,ar (gS T.x)],.agg [ar S.y,ar (gS T.y)]])=true:=by simp only[LV.pure,aO,bj.pure,sf]
 have gf:∀l1 l2:List V3,LV.pure (.agg [.list 9 (l1.map aR),.list 9 (l2.map aR)])=true:=fun l1 l2=>by simp only[LV.pure,aO,bm cu,sf]
 have az4:=azL hTb.1;have atu:=azL hTb.2.1;have hdd:cW (4*RS+1) (tM S.x (gS T.x) S.y (gS T.y)):=awW hSb.1 az4 hSb.2.1 atu;have pP:an ai 90 [iL 1] (ae 1):=zV 1 aj aj;have h1m:an ai 90 [iL (-1)] (ae (-1)):=by
  have:=zV (-1) aj aj;rwa[show (((-1:Int)):Rat)=-1 from by decide +kernel]at this
 have wE:=aJA hub hvb;have hSc:=agR (-1) v (R+1) J (by have:rl (-1)=1:=aG;omega) (hvb.le J);have aFW:=aID (m8 u v) (R+1) J wE;have hiv:=aPN wE;have aPd:cG 90000000 (ot (m8 u v)).a:=hiv.1.le J;have aJS:cG 90000000 (ot (m8 u v)).b:=hiv.2.le J;have uS:an ai 93 [.list 12 (bg.map aA)] (.list 9 ((bg.map aF.p).map aR)):=aBP bg hlA alx;have uD:an ai 93 [.list 12 (a9.map aA)] (.list 9 ((a9.map aF.p).map aR)):=aBP a9 hlB amg;have mm:∀(l:List aF) (i:Nat),i<l.length->(∀q∈l.map aF.p,cG 90000000 q)->cG 90000000 (l.getD i default).p:=fun l i hi h=>h _ (cZ.2 ⟨_,qo hi,rfl⟩);have aFI:∀q∈[(bg.getD 0 default).p],cG 90000000 q:=fun q hq=>by rw[iM.1 hq];exact mm bg 0 hlA ajv
 have aJs:∀q∈[(bg.getD (bg.length-1) default).p],cG 90000000 q:=fun q hq=>by rw[iM.1 hq];exact mm bg _ J ajv
 have aDH:∀q∈[(a9.getD 0 default).p],cG 90000000 q:=fun q hq=>by rw[iM.1 hq];exact mm a9 0 hlB aj3
 have aJB:∀q∈[(a9.getD (a9.length-1) default).p],cG 90000000 q:=fun q hq=>by rw[iM.1 hq];exact mm a9 _ J aj3
 have kK:ks (tM S.x (gS T.x) S.y (gS T.y)) 0=false->vlM (m8 u v)≠0->(qf S T u v (bg.map aF.p) (a9.map aF.p))=if (mH (ec (ot (m8 u v)).a [(bg.getD 0 default).p] (a9.map aF.p)) (ec (ot (m8 u v)).a [(bg.getD (bg.length-1) default).p] (a9.map aF.p)))&&(mH (ec (ot (m8 u v)).b (bg.map aF.p) [(a9.getD 0 default).p]) (ec (ot (m8 u v)).b (bg.map aF.p) [(a9.getD (a9.length-1) default).p]))then 3 else 2:=fun h1 h2=>by
  have hg:ot (m8 u v)=ivM (m8 u v):=if_neg h2;unfold qf;rw[if_neg (by rw[h1];decide),if_neg (show ¬cA (oQ u v) (iW (oM u v) oD)=0 from h2),hg];unfold afq aqz;rw[alR hlA,alR hlB,cC,cC,alR (show bg.length-1<bg.length by omega),alR (show a9.length-1<a9.length by omega)];rfl
 refine aL Tryz.func34 (ht:=(fun g=>LV.db g _ (adM _))) ?_;refine bf (hS1) ?_;refine bf (hS2) ?_;refine bf (av5 T.x RS J hTb.1) ?_;refine al rfl (abl (v0:=ar S.x) (v1:=ar (gS T.x)) acq lF ai4 lz rfl rfl lz lz (bj.pure _) (bj.pure _)) ?_;refine bf (av5 T.y RS J hTb.2.1) ?_;refine al rfl (abl (v0:=ar S.y) (v1:=ar (gS T.y)) acq lF ai4 lz rfl rfl lz lz (bj.pure _) (bj.pure _)) ?_;refine al rfl (abl (v0:=.agg [ar S.x,ar (gS T.x)]) (v1:=.agg [ar S.y,ar (gS T.y)]) Tryz.underlying158 aoe ap8 lz rfl rfl lz lz pu pu) ?_;refine dN rfl (.cons (.pure hpD) .nil) (aHu S.x (gS T.x) S.y (gS T.y) RS J hSb.1 az4 hSb.2.1 atu) ?_;refine aN (alZ (tM S.x (gS T.x) S.y (gS T.y)) 0 (by have:=hdd.1;have:rl 0=1:=rfl;omega) (by have:=hdd.2;have:rl 0=1:=rfl;omega)) ?_;refine bc ?_;refine aD rfl ?_ ?_<;>intro aeb h41
 ·have hkz:(qf S T u v (bg.map aF.p) (a9.map aF.p))=0:=if_pos h41;refine bK ?_;refine eG (x:=ah (qf S T u v (bg.map aF.p) (a9.map aF.p))) ?_ ?_
  ·first|rw[hkz]|rw[sF.trans (if_neg ah9)]
   rfl
  exact .pure (adM _)
 have ns:ks (tM S.x (gS T.x) S.y (gS T.y)) 0=false:=by simpa using h41
 refine bI ?_;refine gE 9 [7] aG ?_;refine bf (hD1) ?_;refine cp cr (hM1) ?_;refine cp aC (hT1) ?_;refine bM ?_;refine gE 9 [7] aG ?_;refine bf (hD2) ?_;refine cp cr (hM2) ?_;refine cp aC (hT2) ?_;refine bf (h1m) ?_;refine aN (hSc) ?_;refine aK ?_;refine gE 19 [17] aG ?_;refine aK ?_;refine tj (aiP rfl rfl) ?_;refine aK ?_;refine tj (aiP rfl rfl) ?_;refine cp cr (pP) ?_;refine tj (aJj rfl) ?_;refine al rfl (aoi rfl rfl rfl) ?_;refine al rfl (apA (a:=oQ u v) (b:=oM u v) (c:=oD) rfl) ?_;refine dN rfl (.cons (.pure (fB.pure (m8 u v))) .nil) aFW ?_;refine aK ?_;refine cj rfl (.stE (e:=fT) (l:=[⟨⟨0,0,0⟩,⟨0,0,0⟩,⟨0,0,0⟩,⟨0,0,0⟩⟩]) (a:=ot (m8 u v)) rfl rfl rfl aE) ?_;refine b7 ?_;refine aD rfl ?_ ?_<;>intro aQ5 h80
 ·have hvz:vlM (m8 u v)=0:=by
   refine aFM fun e=>?_;rw[show ivE (m8 u v)=0 from if_neg e]at h80;simp at h80
  have hkz:(qf S T u v (bg.map aF.p) (a9.map aF.p))=2:=by
   unfold qf;rw[if_neg (by rw[ns];decide),if_pos (show cA (oQ u v) (iW (oM u v) oD)=0 from hvz)]
  refine bK ?_;refine eG (x:=ah (qf S T u v (bg.map aF.p) (a9.map aF.p))) ?_ ?_
  ·first|rw[hkz]|rw[sF.trans (if_neg ah9)]
   rfl
  exact .pure (adM _)
 have hvn:vlM (m8 u v)≠0:=fun e=>by
  rw[show ivE (m8 u v)=9 from if_pos e]at h80;simp at h80
 have sF:=kK ns hvn;refine bf (uS) ?_;refine bf (uD) ?_;refine bf (zx) ?_;refine dj ?_;refine al rfl (.fa rfl rfl rfl rfl (fB.aq _) (aiz _) jw) ?_;refine bc ?_;refine qk [] rfl rfl (.dT (f:=92) (cap:=[]) (args:=[aR (bg.getD 0 default).p]) rfl (.cons (.pure (cu.pure _)) .nil) ⟨rfl,by simp⟩ (ach (bg.getD 0 default).p).1 aj (fun _ h=>by cases h)) ((ach (bg.getD 0 default).p).2 _) ?_;refine aK ?_;refine qk [] rfl rfl (.dT (f:=92) (cap:=[]) (args:=[aR (bg.getD (bg.length-1) default).p]) rfl (.cons (.pure (cu.pure _)) .nil) ⟨rfl,by simp⟩ (ach (bg.getD (bg.length-1) default).p).1 aj (fun _ h=>by cases h)) ((ach (bg.getD (bg.length-1) default).p).2 _) ?_;refine bc ?_;refine dN rfl (.cons (.pure (cu.pure _)) (.cons (.pure (gf [(bg.getD 0 default).p] (a9.map aF.p))) (.cons (.pure (gf [(bg.getD (bg.length-1) default).p] (a9.map aF.p))) .nil))) (ay7 (ot (m8 u v)).a 90000000 J aPd [(bg.getD 0 default).p] (a9.map aF.p) [(bg.getD (bg.length-1) default).p] (a9.map aF.p) aE aE aFI fW fW aj3 aE aE aJs fW fW aj3) ?_;refine bf (w7) ?_;refine bN ?_;refine al rfl (.fa rfl rfl rfl rfl (fB.aq _) (ahO _) jw) ?_;refine bI ?_
 refine qk [] rfl rfl (.dT (f:=92) (cap:=[]) (args:=[aR (a9.getD 0 default).p]) rfl (.cons (.pure (cu.pure _)) .nil) ⟨rfl,by simp⟩ (ach (a9.getD 0 default).p).1 aj (fun _ h=>by cases h)) ((ach (a9.getD 0 default).p).2 _) ?_;refine aK ?_;refine qk [] rfl rfl (.dT (f:=92) (cap:=[]) (args:=[aR (a9.getD (a9.length-1) default).p]) rfl (.cons (.pure (cu.pure _)) .nil) ⟨rfl,by simp⟩ (ach (a9.getD (a9.length-1) default).p).1 aj (fun _ h=>by cases h)) ((ach (a9.getD (a9.length-1) default).p).2 _) ?_;refine bn ?_;refine dN rfl (.cons (.pure (cu.pure _)) (.cons (.pure (gf (bg.map aF.p) [(a9.getD 0 default).p])) (.cons (.pure (gf (bg.map aF.p) [(a9.getD (a9.length-1) default).p])) .nil))) (ay7 (ot (m8 u v)).b 90000000 J aJS (bg.map aF.p) [(a9.getD 0 default).p] (bg.map aF.p) [(a9.getD (a9.length-1) default).p] fW fW ajv aE aE aDH fW fW ajv aE aE aJB) ?_;refine bH ?_;refine dU 126 rfl ?_ ?_<;>intro aQy aBT
 ·refine aK ?_;refine aD rfl ?_ ?_<;>intro aRo arT
  ·have hkz:(qf S T u v (bg.map aF.p) (a9.map aF.p))=3:=sF.trans (if_pos (by rw[show (mH (ec (ot (m8 u v)).a [(bg.getD 0 default).p] (a9.map aF.p)) (ec (ot (m8 u v)).a [(bg.getD (bg.length-1) default).p] (a9.map aF.p)))=true from aBT,show (mH (ec (ot (m8 u v)).b (bg.map aF.p) [(a9.getD 0 default).p]) (ec (ot (m8 u v)).b (bg.map aF.p) [(a9.getD (a9.length-1) default).p]))=true from arT];rfl));refine bK ?_;refine eG (x:=ah (qf S T u v (bg.map aF.p) (a9.map aF.p))) ?_ ?_
   ·first|rw[hkz]|rw[sF.trans (if_neg ah9)]
    rfl
   exact .pure (adM _)
  have hkz:(qf S T u v (bg.map aF.p) (a9.map aF.p))=2:=sF.trans (if_neg (by rw[show (mH (ec (ot (m8 u v)).b (bg.map aF.p) [(a9.getD 0 default).p]) (ec (ot (m8 u v)).b (bg.map aF.p) [(a9.getD (a9.length-1) default).p]))=false from arT];simp));refine bH ?_;refine eG (x:=ah (qf S T u v (bg.map aF.p) (a9.map aF.p))) ?_ ?_
  ·first|rw[hkz]|rw[sF.trans (if_neg ah9)]
   rfl
  exact .pure (adM _)
 refine dj ?_;refine eG (x:=ah (qf S T u v (bg.map aF.p) (a9.map aF.p))) ?_ ?_
 ·first|rw[hkz]|rw[sF.trans (if_neg ah9)]
  rfl
 exact .pure (adM _)
def w8(X Y:ny)(K:Nat):Bool×Nat×Nat:=if meB X Y then(false,K,0)else(true,0,0)
open oS in
theorem aI2(e1 e2:Nat)(k1 k2 k3 k4:List Rat)(bg a9 mM poD:List aF)(s t:Sp)(X Y:ny)(R:Nat)(hR:R<=1000000)(hbX:lL R X)(hbY:lL R Y)(K:Nat)(hU1:an ai 31 [.agg [ah e1,.list 3 (k1.map ae),.list 12 (bg.map aA)],ae s.1,ae s.2] (.aY [.agg [ah e1,.list 3 (k3.map ae),.list 12 (mM.map aA)],iL 0]))(hU2:an ai 31 [.agg [ah e2,.list 3 (k2.map ae),.list 12 (a9.map aA)],ae t.1,ae t.2] (.aY [.agg [ah e2,.list 3 (k4.map ae),.list 12 (poD.map aA)],iL 0]))(hX1:an ai 33 [.agg [ah e1,.list 3 (k3.map ae),.list 12 (mM.map aA)]] (iq X))(hX2:an ai 33 [.agg [ah e2,.list 3 (k4.map ae),.list 12 (poD.map aA)]] (iq Y))(hKi:an ai 34 [.agg [ah e1,.list 3 (k3.map ae),.list 12 (mM.map aA)],.agg [ah e2,.list 3 (k4.map ae),.list 12 (poD.map aA)]] (ah K)):an ai 30 [.list 6 ([s].map ar),.list 6 ([t].map ar),.cx (.agg [ah e1,.list 3 (k1.map ae),.list 12 (bg.map aA)]),.cx (.agg [ah e2,.list 3 (k2.map ae),.list 12 (a9.map aA)])] (vdL (w8 X Y K)):=by
 have hus:ar s=.agg [ae s.1,ae s.2]:=by unfold ar;rfl
 have hut:ar t=.agg [ae t.1,ae t.2]:=by unfold ar;rfl
 have abr:LV.pure (.agg [ah e1,.list 3 (k1.map ae),.list 12 (bg.map aA)])=true:=eN;have aat:LV.pure (.agg [ah e2,.list 3 (k2.map ae),.list 12 (a9.map aA)])=true:=eN;have aRp:LV.pure (.agg [ah e1,.list 3 (k3.map ae),.list 12 (mM.map aA)])=true:=eN;have ag4:LV.pure (.agg [ah e2,.list 3 (k4.map ae),.list 12 (poD.map aA)])=true:=eN;have hMB:=aEW X Y R J hbX hbY;refine aL Tryz.func30 (ht:=(fun g=>LV.db g _ (aFt _))) ?_;refine a6 ?_;refine gE 14 [12] aG ?_;refine al rfl (.abx rfl fo abr) ?_;refine bn ?_;refine al rfl (.qt (n:=0) (r:=.agg [ae s.1,ae s.2]) rfl nF lF rfl aj (by show some (ar s)=_;rw[hus]) (by rw[<-hus];exact bj.aq _)) ?_;refine bI ?_;refine al rfl (.qt (n:=0) (r:=.agg [ae s.1,ae s.2]) rfl nF lF rfl aj (by show some (ar s)=_;rw[hus]) (by rw[<-hus];exact bj.aq _)) ?_;refine rC (hU1) ?_;refine bM ?_;refine gE 14 [12] aG ?_;refine al rfl (.abx rfl fo aat) ?_;refine bn ?_;refine al rfl (.qt (n:=0) (r:=.agg [ae t.1,ae t.2]) rfl nF lF rfl aj (by show some (ar t)=_;rw[hut]) (by rw[<-hut];exact bj.aq _)) ?_;refine bI ?_
 refine al rfl (.qt (n:=0) (r:=.agg [ae t.1,ae t.2]) rfl nF lF rfl aj (by show some (ar t)=_;rw[hut]) (by rw[<-hut];exact bj.aq _)) ?_;refine rC (hU2) ?_;refine bf (hX1) ?_;refine bf (hX2) ?_;refine dN rfl (.cons (.pure (ui.pure _)) (.cons (.pure (ui.pure _)) .nil)) hMB ?_;refine bI ?_;refine aD rfl ?_ ?_<;>intro aMu h42
 ·have hv:(w8 X Y K)=(true,0,0):=if_neg (by simpa using h42);refine bH ?_;exact iJ [] rfl rfl rfl cs (cU cs rfl) T82 (by rw[hv];exact .pure pu)
 have hv:(w8 X Y K)=(false,K,0):=if_pos (by simpa using h42);refine aN (hKi) ?_;refine aW ?_;exact iJ [] rfl rfl rfl cs (cU cs rfl) T82 (by rw[hv];exact .pure pu)
def cH(a b:Rat)(s:Sp):Sp:=(a+(b-a)*s.1,a+(b-a)*s.2)
theorem apv(x:Rat):x/2*2=x:=tV aj
theorem akA(a b:Rat)(s:Sp):jO (cH a b s)=a+(b-a)*jO s:=by
 have h1:=apv (s.1+s.2);have h2:=apv (a+(b-a)*s.1+(a+(b-a)*s.2));show (a+(b-a)*s.1+(a+(b-a)*s.2))/2=a+(b-a)*((s.1+s.2)/2);grind
theorem aym(a b:Rat)(s:Sp):oY (cH a b s)=cH a b (oY s):=by
 have:=akA a b s;unfold oY;rw[this];rfl
theorem aCU(a b:Rat)(s:Sp):qA (cH a b s)=cH a b (qA s):=by
 have:=akA a b s;unfold qA;rw[this];rfl
theorem at9(a b:Rat):cH a b uq=(a,b):=by
 show (a+(b-a)*0,a+(b-a)*1)=(a,b);rw[show a+(b-a)*0=a by grind,show a+(b-a)*1=b by grind]
theorem adb{a b:Rat}(h:a<b)(x:Rat):(a+(b-a)*x-a)/(b-a)=x:=by
 have hn:b-a≠0:=ba;rw[show a+(b-a)*x-a=x*(b-a) by grind,acd hn]
theorem afP{a b x y:Rat}(h:a<b)(hx:x<y):a+(b-a)*x<a+(b-a)*y:=by
 have h1:0<b-a:=ba;have h2:0<y-x:=ba;have:=zW h1 h2;grind
theorem asr{a b x y:Rat}(h:a<b)(hx:x<=y):a+(b-a)*x<=a+(b-a)*y:=by
 have h1:0<=b-a:=ba;have h2:0<=y-x:=ba;have:=ua h1 h2;grind
theorem akh{a b x:Rat}(h:a<b)(h0:0<=x)(h1:x<=1):a<=a+(b-a)*x/\a+(b-a)*x<=b:=by
 have e1:=asr h h0;have e2:=asr h h1;constructor<;>grind
theorem tu{a b x:Rat}{A:Nat}(ha:Go.Lg.rl a<=A)(hb:Go.Lg.rl b<=A)(hx:Go.Lg.rl x<=1):Go.Lg.rl (a+(b-a)*x)<=3*A+5:=by
 have h1:=eX b a;have h2:=cF (b-a) x;have h3:=kO a ((b-a)*x);omega
def xM(D:Nat)(a b c d:Rat)(x:ga):Prop:=∃(s t:Sp) (i j:Int),x.1=[cH a b s,cH c d t]/\x.2.2=[i,j]/\(0<=i/\i<=x.2.1/\0<=j/\j<=x.2.1)/\x.2.1<=D/\mX x.2.1 s/\mX x.2.1 t
theorem aqS(D:Nat)(a b c d:Rat):xM D a b c d ([(a,b)]++[(c,d)],0,av 2 0):=by
 have h0:oz 0 (0:Rat):=aCT 0;have h1:oz 0 (1:Rat):=aCT 1;refine⟨uq,uq,0,0,?_,rfl,⟨aja _,aja _,aja _,aja _⟩,bW _,⟨h0,h1,by decide +kernel,by decide +kernel,by decide +kernel⟩,⟨h0,h1,by decide +kernel,by decide +kernel,by decide +kernel⟩⟩;rw[at9,at9];rfl
theorem avp{D:Nat}{a b c d:Rat}{x:ga}(h:xM D a b c d x)(hd:x.2.1<D):xM D a b c d (nJ x)/\xM D a b c d (n5 x):=by
 obtain⟨s,t,i,j,e,f,⟨i1,i2,j1,j2⟩,_,hs,ht⟩:=h;have ha:gG x=0\/gG x=1:=by
  have:=ad1 (t:=x.2.2) x.2.2.length (bF _) (by rw[f];exact Nat.succ_pos _);have hl:x.2.2.length=2:=by rw[f];rfl
  unfold gG;omega
 unfold nJ n5 aex;rcases ha with g|g
 ·rw[g,e,f];exact⟨⟨oY s,t,i+1,j,by rw[<-aym];rfl,rfl,⟨J,by show i+1<=((x.2.1+1:Nat):Int);omega,j1,by show j<=((x.2.1+1:Nat):Int);omega⟩,hd,hs.half.1,ht.succ⟩,
   ⟨qA s,t,i+1,j,by rw[<-aCU];rfl,rfl,⟨J,by show i+1<=((x.2.1+1:Nat):Int);omega,j1,by show j<=((x.2.1+1:Nat):Int);omega⟩,hd,hs.half.2,ht.succ⟩⟩
 rw[g,e,f];exact⟨⟨s,oY t,i,j+1,by rw[<-aym];rfl,rfl,⟨i1,by show i<=((x.2.1+1:Nat):Int);omega,J,by show j+1<=((x.2.1+1:Nat):Int);omega⟩,hd,hs.succ,ht.half.1⟩,
  ⟨s,qA t,i,j+1,by rw[<-aCU];rfl,rfl,⟨i1,by show i<=((x.2.1+1:Nat):Int);omega,J,by show j+1<=((x.2.1+1:Nat):Int);omega⟩,hd,hs.succ,ht.half.2⟩⟩
theorem aLh{P:Program}{f:Nat}{cap:List LV}{D:Nat}(hD:D<=24){a b c d:Rat}(cm:a<b)(yi:c<d)(ha:Go.Lg.rl a<=300)(hb:Go.Lg.rl b<=300)(hc:Go.Lg.rl c<=300)(hd:Go.Lg.rl d<=300)(lk:mC)
  (hl:∀s t:Sp,mX D s->mX D t->an P f ([.list 6 ([cH a b s].map ar),.list 6 ([cH c d t].map ar)]++cap) (vdL (lk [cH a b s] [cH c d t])))
  (hk:∀s t:Sp,mX D s->mX D t->(lk [cH a b s] [cH c d t]).2.1<=4/\(lk [cH a b s] [cH c d t]).2.2<=4):afh P f cap D 1 2 lk (xM D a b c d):=by
 have hle:∀{n:Nat} {s:Sp},n<=D->mX n s->mX D s:=fun hn h=>⟨h.1.le hn,h.2.1.le hn,h.2.2⟩;refine⟨fun x h=>?_,fun x h t ht=>?_,fun x h=>?_,fun x h s hs=>?_,fun x h hd=>avp h hd,fun x h=>?_,fun x h=>?_⟩
 ·obtain⟨s,t,i,j,e,f,_⟩:=h;rw[e,f];exact⟨rfl,rfl⟩
 ·obtain⟨s,t',i,j,e,f,⟨i1,i2,j1,j2⟩,hd,_⟩:=h;rw[f]at ht;simp only[dS,jR,or_false]at ht;rcases ht with rfl|rfl<;>omega
 ·obtain⟨_,_,_,_,_,_,_,hd,_⟩:=h;exact hd
 ·obtain⟨s',t',i,j,e,f,_,hd9,k1,k2⟩:=h;rw[e]at hs;simp only[dS,jR,or_false]at hs;rcases hs with rfl|rfl
  ·have hr:=k1.rl J;have h1:=tu ha hb hr.1;have h2:=tu ha hb hr.2;exact⟨⟨by show Go.Lg.rl (a+(b-a)*s'.1)<=_;omega,by show Go.Lg.rl (a+(b-a)*s'.2)<=_;omega⟩,kL (afP cm k1.2.2.2.1)⟩
  have hr:=k2.rl J;have h1:=tu hc hd hr.1;have h2:=tu hc hd hr.2;exact⟨⟨by show Go.Lg.rl (c+(d-c)*t'.1)<=_;omega,by show Go.Lg.rl (c+(d-c)*t'.2)<=_;omega⟩,kL (afP yi k2.2.2.2.1)⟩
 ·obtain⟨s',t',i,j,e,f,_,hd,k1,k2⟩:=h;rw[e];exact hl s' t' (hle hd k1) (hle hd k2)
 obtain⟨s',t',i,j,e,f,_,hd,k1,k2⟩:=h;rw[e];exact hk s' t' (hle hd k1) (hle hd k2)
def cY(D N:Nat)(x:Rat):Prop:=∃z:Int,x*((D:Int):Rat)=(z:Rat)/\z.natAbs<=N
theorem acS(m n:Nat):(((m*n:Nat):Int):Rat)=((m:Int):Rat)*((n:Int):Rat):=by push_cast;rfl
theorem ag1{D:Nat}(h:0<D):(0:Rat)<((D:Int):Rat):=aaw.2 J
theorem cY.rl{D N k:Nat}{x:Rat}(h:cY D N x)(hD:0<D)(hN:N<4294967296^k)(gi:D<4294967296^k)(hk:1<=k):Go.Lg.rl x<=k:=by
 obtain⟨z,e,hz⟩:=h;have hp:=ag1 hD;have:x=(z:Rat)/((D:Int):Rat):=by rw[<-e,acd ba]
 rw[this,<-ahx];have:=ad8 (k:=k) (decide (z<0) != decide ((D:Int)<0)) (n:=z.natAbs) (d:=(D:Int).natAbs) J (by simpa using gi);omega
theorem cY.div{D N k:Nat}{x y:Rat}(h:cY D N x)(g:cY D N y)(hD:0<D)(hN:N<4294967296^k)(hk:1<=k):Go.Lg.rl (x/y)<=k:=by
 obtain⟨z,e,hz⟩:=h;obtain⟨u,f,hu⟩:=g;have hp:=ag1 hD;have:x/y=(z:Rat)/(u:Rat):=by
  rw[<-e,<-f];by_cases hy:y=0
  ·subst hy;rw[aff,gQ,gQ];simp
  have h1:y*((D:Int):Rat)≠0:=by
   intro e0;rcases Rat.mul_eq_zero.1 e0 with e1|e1
   ·exact hy e1
   grind
  have h2:x/y*y=x:=tV hy;have h3:x*((D:Int):Rat)/(y*((D:Int):Rat))*(y*((D:Int):Rat))=x*((D:Int):Rat):=tV h1;have h4:x/y*(y*((D:Int):Rat))=x*((D:Int):Rat):=by rw[<-xi,h2]
  have h5:x/y=x*((D:Int):Rat)/(y*((D:Int):Rat)):=by rw[<-h4,acd h1]
  exact h5
 rw[this,<-ahx];have:=ad8 (k:=k) (decide (z<0) != decide (u<0)) (n:=z.natAbs) (d:=u.natAbs) J J;omega
def uQ(E:Nat)(x:Rat):Prop:=∃α β:Nat,x*((E:Int):Rat)=((α:Int):Rat)/\(1-x)*((E:Int):Rat)=((β:Int):Rat)
theorem uQ.sum{E:Nat}{x:Rat}{α β:Nat}(h1:x*((E:Int):Rat)=((α:Int):Rat))(h2:(1-x)*((E:Int):Rat)=((β:Int):Rat)):α+β=E:=by
 have:(((α+β:Nat):Int):Rat)=((E:Int):Rat):=by
  push_cast;push_cast at h1 h2;rw[<-h1,<-h2];grind
 have:=Rat.intCast_inj.1 this;omega
theorem ajm{n:Nat}{x:Rat}(h:oz n x)(h0:0<=x)(h1:x<=1):uQ (2^n) x:=by
 obtain⟨z,e⟩:=h.mul;have hp:=two_pos n;have m0:=ua h0 (kL hp);have m1:=ua (show 0<=1-x by grind) (kL hp);have e2:(1-x)*(((2^n:Nat):Int):Rat)=((((2^n:Nat):Int)-z:Int):Rat):=by
  push_cast;push_cast at e;rw[<-e];grind
 rw[e]at m0;rw[e2]at m1;have z0:0<=z:=akq.1 m0;have z1:0<=((2^n:Nat):Int)-z:=akq.1 m1;refine⟨z.toNat,(((2^n:Nat):Int)-z).toNat,?_,?_⟩
 ·rw[ad3 z0];exact e
 rw[ad3 z1];exact e2
theorem ahd{a:Rat}{E:Nat}(ha:uQ E a):∀(n:Nat) {D N:Nat} (f:Nat->Rat),(∀i,i<=n->cY D N (f i))->cY (D*E^n) (N*E^n) (fE (1-a) a n f)
 |0,D,N,f,h=>by
  have:=h 0 (bF _);simpa[fE]using this
 |n+1,D,N,f,h=>by
  rw[fE,kC,ie (E^n) E,<-iD,<-iD];refine ahd ha n _ fun i hi=>?_;obtain⟨α,β,e1,e2⟩:=ha;have es:=uQ.sum e1 e2;obtain⟨z,f1,g1⟩:=h i J;obtain⟨u,f2,g2⟩:=h (i+1) J;refine⟨(β:Int)*z+(α:Int)*u,?_,?_⟩
  ·rw[acS,af6,tx,tx,<-e1,<-e2,<-f1,<-f2];grind
  have h1:=anX ((β:Int)*z) ((α:Int)*u);rw[aeS,aeS,aiM,aiM]at h1;have h2:=l9 β g1;have h3:=l9 α g2;have h4:N*E=β*N+α*N:=by rw[<-es,ie,iV,vQ]
  omega
theorem aDh{a b:Rat}{E:Nat}(ha:uQ E a)(hb:uQ E b){n j D N:Nat}(hj:j<=n){f:Nat->Rat}(h:∀i,i<=n->cY D N (f i)):cY (D*E^n) (N*E^n) (pcV a b n f j):=by
 have h1:∀m,m<=n-j->cY (D*E^j) (N*E^j) (sI b j f m):=fun m hm=>by
  rw[abB];exact ahd hb j _ fun i hi=>h _ J
 unfold pcV;rw[abB];have:=ahd ha (n-j) (fun i=>sI b j f (0+i)) fun i hi=>h1 (0+i) J;rw[iD,iD,<-nw,Nat.add_sub_cancel' hj]at this;exact this
structure cvC (po:List aF) (d D N:Nat):Prop where
 n:∀k i,i<=d->cY D N ((a7 po k).getD i 0)
 w:∀i,i<=d->cY D N ((aS po).getD i 0)
theorem aCX{po:List aF}{d R:Nat}(h:uG po d R){x y:Rat}(lH:0<=x)(iT:x<1)(ky:0<=y)(qP:y<=1){D N E k:Nat}(hD:0<D)(hE:0<E)(hx:uQ E x)(hy:uQ E y)(hc:cvC po d D N)
  (hN:N*E^d<4294967296^k) (gi:D*E^d<4294967296^k) (hk:1<=k):uG (lT po x y) d k:=by
 have hl:=h.hl;have hDE:0<D*E^d:=oR hD (ov hE);refine⟨by rw[abo,hl],h.hd,h.h6,fun q hq=>?_⟩;obtain⟨j,hj,rfl⟩:=cZ.1 hq;have hj:j<po.length:=by simpa using hj
 have hw:cY (D*E^d) (N*E^d) ((df (aS po) x y).getD j 0):=by
  rw[ajn h iT J];exact aDh hx hy J fun i hi=>hc.w i hi
 have hn:∀k,cY (D*E^d) (N*E^d) ((df (a7 po k) x y).getD j 0):=fun k=>by
  rw[aep h iT k J];exact aDh hx hy J fun i hi=>hc.n k i hi
 exact⟨⟨(hn 0).div hw hDE hN hk,(hn 1).div hw hDE hN hk,(hn 2).div hw hDE hN hk⟩,hw.rl hDE hN gi hk,amT h lH iT ky qP J⟩
theorem aAV{p:List Rat}{x:Rat}{R:Nat}(hp:∀z∈p,rl z<=R)(hx:rl x<=4):rl (dq p x)<=(R+11)*2^p.length:=by
 have h5:=eX 1 x;rw[show rl 1=1 from rfl]at h5;have nt:0<2^p.length:=ov aj;have h:∀z∈p,(rl z+11)*2^p.length<=(R+11)*2^p.length:=fun z hz=>jd _ (by have:=hp z hz;omega);have h1:1<=(R+11)*2^p.length:=oR J nt;exact ix h1 (fun z hz=>by have:=anl (C:=11) J p.length p rfl h z hz;omega) _
theorem aIJ{po:List aF}{d:Nat}{W x:Rat}(h3:d<=3)(h:oh po d 100)(hW:rl W<=200)(hx:rl x<=4):cG 3700000 (aln W po x):=by
 have h5:=h.d5;have hd:=h.c.hd;have w:=h.w;have hw:=aAV w.2 hx;have gL:2^(aS po).length<=2^4:=mN aj J;have hw2:rl (dq (aS po) x)<=111*2^4:=aP hw (l9 _ gL);have ht:∀k,rl (dq (eF po k) x)<=48802*2^6:=fun k=>by
  have t:=h.t k;have h1:=aAV t.2 hx;have h2:2^(eF po k).length<=2^6:=mN aj J;exact aP h1 (aP (l9 _ h2) J)
 have m0:=cF (dq (aS po) x) (dq (aS po) x);have m1:=cF W (dq (aS po) x*dq (aS po) x);have m2:=pv 1 (W*(dq (aS po) x*dq (aS po) x));have r1:rl 1=1:=rfl;have g:∀k,rl (1/(W*(dq (aS po) x*dq (aS po) x))*dq (eF po k) x)<=3700000:=fun k=>by
  have m3:=cF (1/(W*(dq (aS po) x*dq (aS po) x))) (dq (eF po k) x);have:=ht k;omega
 exact⟨g 0,g 1,g 2⟩
theorem aN0{po:List aF}{d:Nat}{W:Rat}(h:oh po d 100)(hW:rl W<=200):lL 20000000 (aaD W po):=by
 have g:∀k,cW 20000000 (spW W po k):=fun k=>(axu (h.qu k) (show cW 200 (W,W) from ⟨hW,hW⟩)).le J;exact⟨g 0,g 1,g 2⟩
theorem aMK(S T:ny)(u v:V3)(l m:List V3):qf S T u v l m<=4:=by
 unfold qf;split
 ·omega
 split
 ·omega
 split<;>omega
theorem asF{s:Sp}(h:s.1<s.2):(jO s-s.1)/(s.2-s.1)=1/2:=by
 have e:=apv (s.1+s.2);have hn:s.2-s.1≠0:=ba;have:jO s-s.1=1/2*(s.2-s.1):=by
  show (s.1+s.2)/2-s.1=_;grind
 rw[this,acd hn]
structure jP where
 d:Nat
 a:Rat
 b:Rat
 po:List aF
def ko(q:jP):dP:=(q.d,a8 q.d q.a q.b,q.po)
structure u9 (q:jP) (Dp D N:Nat):Prop where
 d5:q.d<=3
 ab:q.a<q.b
 ra:rl q.a<=30
 rb:rl q.b<=30
 c:uG q.po q.d 1000
 cc:cvC q.po q.d D N
 D0:0<D
 hN:N*(2^Dp)^q.d<4294967296^100
 hD:D*(2^Dp)^q.d<4294967296^100
def fu(q:jP)(s:Sp):List aF:=lT q.po ((s.1-q.a)/(q.b-q.a)) ((s.2-q.a)/(q.b-q.a))
def lkU(q:jP)(s:Sp):V3:=aln (s.2-s.1) (fu q s) ((jO s-s.1)/(s.2-s.1))
def xP(p q:jP):mC:=fun A B =>
 w8 (zH ((fu p (A.getD 0 default)).map aF.p)) (zH ((fu q (B.getD 0 default)).map aF.p))
  (qf (aaD ((A.getD 0 default).2-(A.getD 0 default).1) (fu p (A.getD 0 default))) (aaD ((B.getD 0 default).2-(B.getD 0 default).1) (fu q (B.getD 0 default))) (lkU p (A.getD 0 default)) (lkU q (B.getD 0 default)) ((fu p (A.getD 0 default)).map aF.p) ((fu q (B.getD 0 default)).map aF.p))
structure sdK (q:jP) (s:Sp):Prop where
 len:(fu q s).length=q.d+1
 cv:oh (fu q s) q.d 100
 pos:∀z∈(fu q s).map aF.p,cG 100 z
 box:lL 100 (zH ((fu q s).map aF.p))
 spd:lL 20000000 (aaD (s.2-s.1) (fu q s))
 tan:cG 3700000 (lkU q s)
 cut:an ai 31 [.agg [ah q.d,.list 3 ((a8 q.d q.a q.b).map ae),.list 12 (q.po.map aA)],ae s.1,ae s.2] (.aY [.agg [ah q.d,.list 3 ((a8 q.d s.1 s.2).map ae),.list 12 ((fu q s).map aA)],iL 0])
 bx:an ai 33 [.agg [ah q.d,.list 3 ((a8 q.d s.1 s.2).map ae),.list 12 ((fu q s).map aA)]] (iq (zH ((fu q s).map aF.p)))
 sp:an ai 83 [.agg [ah q.d,.list 3 ((a8 q.d s.1 s.2).map ae),.list 12 ((fu q s).map aA)]] (iq (aaD (s.2-s.1) (fu q s)))
 dom:an ai 29 [.agg [ah q.d,.list 3 ((a8 q.d s.1 s.2).map ae),.list 12 ((fu q s).map aA)]] (ar s)
 mid:an ai 88 [ar s] (ae (jO s))
 tg:an ai 87 [.agg [ah q.d,.list 3 ((a8 q.d s.1 s.2).map ae),.list 12 ((fu q s).map aA)],ae (jO s)] (.aY [aR (lkU q s),iL 0])
 ends:an ai 94 [.agg [ah q.d,.list 3 ((a8 q.d s.1 s.2).map ae),.list 12 ((fu q s).map aA)]] (.aY [aR ((fu q s).getD 0 default).p,aR ((fu q s).getD ((fu q s).length-1) default).p])
theorem afs{q:jP}{Dp D N:Nat}(h:u9 q Dp D N)(qc:Dp<=23){σ:Sp}(hs:mX Dp σ):sdK q (cH q.a q.b σ):=by
 obtain⟨s1,s2,s3,s4,s5⟩:=hs;have yh:mX Dp σ:=⟨s1,s2,s3,s4,s5⟩;have cm:=h.ab;have ag2:=yh.rl J;have hra:=h.ra;have hrb:=h.rb;have h5:=h.d5;have hc:=h.c;have r1:=tu hra hrb ag2.1;have r2:=tu hra hrb ag2.2;have eC:fu q (cH q.a q.b σ)=lT q.po σ.1 σ.2:=by
  unfold fu;rw[show ((cH q.a q.b σ).1-q.a)/(q.b-q.a)=σ.1 from adb cm σ.1,show ((cH q.a q.b σ).2-q.a)/(q.b-q.a)=σ.2 from adb cm σ.2]
 have iT:σ.1<1:=ba;have ky:0<=σ.2:=ba;have ahS:σ.1<=1:=ba;have hu1:=ajm s1 s3 ahS;have wG:=ajm s2 ky s5;have hE:0<2^Dp:=ov aj;have hR:=aCX hc s3 iT ky s5 (k:=100) h.D0 hE hu1 wG h.cc h.hN h.hD aj;have sD:oh (fu q (cH q.a q.b σ)) q.d 100:=by rw[eC];exact⟨hR,J,by decide,by decide⟩
 have bV:(cH q.a q.b σ).1<(cH q.a q.b σ).2:=afP cm s4;have aqI:=akh cm s3 ahS;have apf:=akh cm ky s5;have e1:=eX 1 σ.1;have e2:=eX 1 σ.2;have rr1:rl 1=1:=rfl;have ew:=eX (cH q.a q.b σ).2 (cH q.a q.b σ).1;have r1':rl (cH q.a q.b σ).1<=95:=by show rl (q.a+(q.b-q.a)*σ.1)<=_;omega
 have r2':rl (cH q.a q.b σ).2<=95:=by show rl (q.a+(q.b-q.a)*σ.2)<=_;omega
 have hW:rl ((cH q.a q.b σ).2-(cH q.a q.b σ).1)<=200:=J;have zy:=az0 bV;have hmr:rl (jO (cH q.a q.b σ))<=95:=by
  rw[akA];have hm:=(yh.half.1).rl (show Dp+1<=24 by omega);have:=tu hra hrb hm.2;have e:(oY σ).2=jO σ:=rfl;rw[e]at this;omega
 have hlen:(fu q (cH q.a q.b σ)).length=q.d+1:=sD.c.hl;have nt:∀z∈(fu q (cH q.a q.b σ)).map aF.p,cG 100 z:=fun z hz=>by
  obtain⟨y,hy,rfl⟩:=cZ.1 hz;exact(sD.c.ok y hy).1
 have hbx:lL 100 (zH ((fu q (cH q.a q.b σ)).map aF.p)):=by
  have hb:∀i,i<((fu q (cH q.a q.b σ)).map aF.p).length->cG 100 (((fu q (cH q.a q.b σ)).map aF.p).getD i default):=fun i hi=>by
   rw[bq,ck hi];exact nt _ (qX hi)
  have hl0:((fu q (cH q.a q.b σ)).map aF.p).length-1<((fu q (cH q.a q.b σ)).map aF.p).length:=by rw[cC,hlen];omega
  exact⟨adj hb 0 _ hl0,adj hb 1 _ hl0,adj hb 2 _ hl0⟩
 have ap7:=asF bV;have hrh:rl ((jO (cH q.a q.b σ)-(cH q.a q.b σ).1)/((cH q.a q.b σ).2-(cH q.a q.b σ).1))<=4:=by rw[ap7];decide +kernel
 have aif:=aGU q.d q.a q.b q.po J J cm J (cH q.a q.b σ).1 (cH q.a q.b σ).2 σ.1 σ.2 J J aqI.1 bV apf.2 (adb cm σ.1) (adb cm σ.2) iT J J 1000 aj hc (fun k z hz=>aP (aht hc.ok k z hz) aj) (fun z hz=>aP (aha hc.ok z hz) aj) s3 ky s5;rw[<-eC]at aif;exact⟨hlen,sD,nt,hbx,aN0 sD hW,aIJ h5 sD hW hrh,aif,aHE _ _ _ 100 aj sD.c,aN7 _ _ _ _ J J bV J 100 sD,ajR _ _ _ _ J J bV J,aCE _ J,aJZ _ _ _ _ J J bV J 100 sD _ _ J zy.1 zy.2 rfl J,aO6 _ _ _ 100 aj sD.c⟩
theorem ar3{p q:jP}{Dp D N D' N':Nat}(hp:u9 p Dp D N)(hq:u9 q Dp D' N')(qc:Dp<=23):afh ai 30 [.cx (cR (ko p)),.cx (cR (ko q))] Dp 1 2 (xP p q) (xM Dp p.a p.b q.a q.b):=by
 have mj:=hp.ra;have tq:=hp.rb;have rR:=hq.ra;have hq2:=hq.rb;refine aLh J hp.ab hq.ab J J J J (xP p q) (fun s t hs ht=>?_) (fun s t hs ht=>?_)
 ·have h1:=afs hp qc hs;have h2:=afs hq qc ht;have hpd:=hp.d5;have hqd:=hq.d5;have lr:=h1.len;have oK:=h2.len;have hK:=aFj p.d q.d _ _ _ _ _ _ 20000000 aj h1.spd h2.spd _ _ _ _ _ _ 3700000 aj h1.tan h2.tan J J J J (fun z hz=>(h1.pos z hz).le aj) (fun z hz=>(h2.pos z hz).le aj) h1.sp h2.sp h1.dom h2.dom h1.mid h2.mid h1.tg h2.tg h1.ends h2.ends;exact aI2 p.d q.d _ _ _ _ p.po q.po _ _ _ _ _ _ 100 aj h1.box h2.box _ h1.cut h2.cut h1.bx h2.bx hK
 show (w8 _ _ _).2.1<=4/\(w8 _ _ _).2.2<=4;unfold w8;split
 ·exact⟨aMK _ _ _ _ _ _,bW _⟩
 exact⟨bW _,bW _⟩
theorem aMX(d:Nat)(a t b:Rat)(po:List aF)(R R4:Nat)(h1:1<=d)(h6:d<=6)(cJ:a<t)(eB:t<b)(ha:rl a<=64)(ht:rl t<=64)(hb:rl b<=64)(hl:po.length=d+2)(fL:1<=R)(hR:R<=1000)(xl:∀q∈po,oO R q)(hQ:∀q∈(po.map de),s8 10000000 q)(hk:kOK (bB d a t b) d)(hds:cT (bB d a t b) (bB d a t b).length=[a,t,b])
  (hR4:R4<=1000000000) (hA:∀q∈lI d a t b (po.map de),s8 R4 q/\0<q.w) (hZ:∀q∈lP d a t b (po.map de),s8 R4 q/\0<q.w) (hAl:(lI d a t b (po.map de)).length<=200) (hZl:(lP d a t b (po.map de)).length<=200) :
  an ai 27 [.agg [ah d,.list 3 ((bB d a t b).map ae),.list 12 (po.map aA)]] (.list 3 ((([⟨d,a,t,(lI d a t b (po.map de)).map dz⟩,⟨d,t,b,(lP d a t b (po.map de)).map dz⟩]:List jP).map ko).map cR)):=by
 have h3:=afL (d:=d) ha ht hb;have hlen:=qB d a t b;have hC:(po.map de).length=d+2:=by rw[cC,hl]
 have mw:∀(x y:Rat),rl x<=64->rl y<=64->∀z∈a8 d x y,rl z<=1000:=fun x y hx hy z hz=>aP (adG hx hy z hz) aj;exact atQ d (bB d a t b) [a,t,b] po (fun i=>if i=0 then lI d a t b (po.map de)else lP d a t b (po.map de)) 2 rfl aj J J h3 hds (axx d (bB d a t b) po hk J) (at1 d (bB d a t b) po R fL hR J J (fun x hx=>aP (h3 x hx) aj) J xl)
  (fun i hi=>by
   match i,hi with
   |0,_=>exact aFJ d a t b (po.map de) 10000000 h1 h6 cJ eB ha ht hb hC aj aj hQ
   |1,_=>exact aEP d a t b (po.map de) 10000000 h1 h6 cJ eB ha ht hb hC aj aj hQ)
  (fun i hi=>by
   match i,hi with
   |0,_=>exact anu d (a8 d a t) _ R4 hR4 J (by rw[kz];omega) (mw a t ha ht) hAl hA
   |1,_=>exact anu d (a8 d t b) _ R4 hR4 J (by rw[kz];omega) (mw t b ht hb) hZl hZ)
theorem aML(d:Nat)(a t b:Rat):bB d a t b=kx d a [t] b:=by
 unfold bB kq kx;simp
theorem aLX{d:Nat}{a t b:Rat}(h1:1<=d)(cJ:a<t)(eB:t<b)(ht:rl t<=64):aqB d a [t] b :=
 ⟨fun x hx=>by rw[iM.1 hx];exact⟨cJ,eB⟩,fun i hi=>by simp at hi,fun x hx=>by
  rw[iM.1 hx];have:=af5 [t] t [t].length;exact aP this h1,Nat.le_succ 1,fun x hx=>by rw[iM.1 hx];exact ht⟩
theorem aHT{d:Nat}{a t b:Rat}(h1:1<=d)(h6:d<=6)(cJ:a<t)(eB:t<b)(ha:rl a<=64)(ht:rl t<=64)(hb:rl b<=64):kOK (bB d a t b) d:=by
 rw[aML];exact ayR h1 h6 ha hb ba (aLX h1 cJ eB ht)
theorem aDb{d:Nat}{a t b:Rat}:∀i,i+1<=d+1->cT (bB d a t b) (i+1)=[a]
 |0,_=>by rw[cT,if_pos (.inl rfl),fI _ _ _ _ _ J,if_pos J];rfl
 |i+1,h=>by
  rw[afC J (by rw[fI _ _ _ _ _ J,fI _ _ _ _ _ J,if_pos J,if_pos J]),aDb i J]
theorem aOJ{d:Nat}{a t b:Rat}(cJ:a<t):cT (bB d a t b) (d+2)=[a,t]:=by
 rw[amj J (by rw[fI _ _ _ _ _ J,fI _ _ _ _ _ J,if_neg J,if_pos J,if_pos J];grind),aDb d J,fI _ _ _ _ _ J,if_neg J,if_pos J];rfl
theorem az5{d:Nat}{a t b:Rat}(cJ:a<t)(eB:t<b):∀i,i+1<=d+1->cT (bB d a t b) (d+2+(i+1))=[a,t,b]
 |0,_=>by
  rw[<-vp,amj J (by rw[fI _ _ _ _ _ J,fI _ _ _ _ _ J,if_neg J,if_neg J,if_neg J,if_pos J];grind),nW,aOJ cJ,fI _ _ _ _ _ J,if_neg J,if_neg J];rfl
 |i+1,h=>by
  rw[<-vp,afC J (by rw[fI _ _ _ _ _ J,fI _ _ _ _ _ J,if_neg J,if_neg J,if_neg J,if_neg J]),az5 cJ eB i J]
theorem auS{d:Nat}{a t b:Rat}(cJ:a<t)(eB:t<b):cT (bB d a t b) (bB d a t b).length=[a,t,b]:=by
 have:=az5 (d:=d) cJ eB d (bF _);rwa[show d+2+(d+1)=(bB d a t b).length by rw[qB];omega]at this
theorem aPx{x y f:Rat}(h0:0<=f)(h1:f<=1)(hx:0<x)(hy:0<y):0<x+f*(y-x):=by
 rcases Rat.le_total (a:=x) (b:=y)with g|g
 ·have:=ua h0 (show 0<=y-x by grind);grind
 have:=ua (show 0<=1-f by grind) (show 0<=x-y by grind);grind
theorem aGm{f:Nat->Rat}{v:List Rat}{j:Nat}(hf:∀i,j<i->i<v.length->0<=f i/\f i<=1)(hv:∀x∈v,0<x):∀x∈ll f v j,0<x:=fun x hx=>by
 obtain⟨i,hi,rfl⟩:=ah6 hx;rw[xG]at hi;rw[aaL f v j i hi];have a:=hv _ (dJ hi);split
 ·rename_i g;have h0:=hf i g hi;have b:=hv _ (dJ (show i-1<v.length by omega));exact aPx h0.1 h0.2 b a
 exact a
theorem au7{F:Nat->Nat->Rat}{v:List Rat}{n:Nat}(hF:∀r i,r<n->r<i->i<v.length->0<=F r i/\F r i<=1)(hv:∀x∈v,0<x):∀r,r<=n->∀x∈cK F v r,0<x
 |0,_=>hv
 |r+1,h=>aGm (fun i h1 h2=>hF r i J h1 (by rwa[aan]at h2)) (au7 hF hv r J)
theorem cY.scale{D N E:Nat}{x:Rat}(h:cY D N x):cY (D*E) (N*E) x:=by
 obtain⟨z,e,g⟩:=h;refine⟨z*(E:Int),?_,?_⟩
 ·rw[acS,<-xi,e,tx]
 rw[aeS,aiM];exact jd _ g
theorem aIp{D N E:Nat}{x y f:Rat}(hf:uQ E f)(hx:cY D N x)(hy:cY D N y):cY (D*E) (N*E) (x+f*(y-x)):=by
 obtain⟨α,β,e1,e2⟩:=hf;have es:=uQ.sum e1 e2;obtain⟨z,f1,g1⟩:=hx;obtain⟨u,f2,g2⟩:=hy;refine⟨(β:Int)*z+(α:Int)*u,?_,?_⟩
 ·rw[acS,af6,tx,tx,<-e1,<-e2,<-f1,<-f2];grind
 have h1:=anX ((β:Int)*z) ((α:Int)*u);rw[aeS,aeS,aiM,aiM]at h1;have h2:=l9 β g1;have h3:=l9 α g2;have h4:N*E=β*N+α*N:=by rw[<-es,ie,iV,vQ]
 omega
theorem aKO{f:Nat->Rat}{v:List Rat}{j D N E:Nat}(hf:∀i,j<i->i<v.length->uQ E (f i))(hv:∀x∈v,cY D N x):∀x∈ll f v j,cY (D*E) (N*E) x:=fun x hx=>by
 obtain⟨i,hi,rfl⟩:=ah6 hx;rw[xG]at hi;rw[aaL f v j i hi];have a:=hv _ (dJ hi);split
 ·rename_i g;exact aIp (hf i g hi) (hv _ (dJ (show i-1<v.length by omega))) a
 exact a.scale
theorem azr{F:Nat->Nat->Rat}{v:List Rat}{n D N E:Nat}(hF:∀r i,r<n->r<i->i<v.length->uQ E (F r i))(hv:∀x∈v,cY D N x):∀r,r<=n->∀x∈cK F v r,cY (D*E^r) (N*E^r) x
 |0,_=>fun x hx=>by simpa using hv x hx
 |r+1,h=>fun x hx=>by
  rw[kC,<-iD,<-iD];exact aKO (fun i h1 h2=>hF r i J h1 (by rwa[aan]at h2)) (azr hF hv r J) x hx
def iK(c:dP):jP:=⟨c.1,c.2.1.getD 0 0,c.2.1.getD (2*(c.1+1)-1) 0,c.2.2⟩
theorem aaV(q:jP):iK (ko q)=q:=by
 obtain⟨d,a,b,po⟩:=q;show jP.mk d ((a8 d a b).getD 0 0) ((a8 d a b).getD (2*(d+1)-1) 0) po=_;rw[ye,zz]
def xL(d w:Nat)(wd:Rat)(lA lB:List jP):qG:=qw d w wd (fun c e=>xP (iK c) (iK e)) (fun c=>((iK c).a,(iK c).b)) (lA.map ko) (lB.map ko) (0,[])
theorem aOV(d1 d2:Nat)(k1 k2:List Rat)(bg a9:List aF)(lr:bg.length<=1000)(oK:a9.length<=1000)(ri:∀x∈bg,x.p.z=0)(yG:∀x∈a9,x.p.z=0)(lA lB:List jP)(hA:lA.length<=10)(hB:lB.length<=10)(d w:Nat)(wd:Rat)(hd:d<=10)(hw:w<=4096)(uX:rl wd<=100)
  (qY:an ai 25 [.agg [ah d,ah w,ae wd]] (bL true)) (uS:an ai 27 [.agg [ah d1,.list 3 (k1.map ae),.list 12 (bg.map aA)]] (.list 3 ((lA.map ko).map cR))) (uD:an ai 27 [.agg [ah d2,.list 3 (k2.map ae),.list 12 (a9.map aA)]] (.list 3 ((lB.map ko).map cR)))
  (hKA:∀q∈lA,∃D N,u9 q d D N) (hKB:∀q∈lB,∃D N,u9 q d D N) :
  an ai 10 [.agg [ah d1,.list 3 (k1.map ae),.list 12 (bg.map aA)],.agg [ah d2,.list 3 (k2.map ae),.list 12 (a9.map aA)],.agg [ah d,ah w,ae wd]] (.aY [.list 4 ((xL d w wd lA lB).2.map fv),iL 0]):=by
 have wR:∀(l:List jP),(∀q∈l,∃D N,u9 q d D N)->∀c∈l.map ko,an ai 29 [cR c] (ar ((iK c).a,(iK c).b)):=fun l hK c hc=>by
  obtain⟨q,hq,rfl⟩:=cZ.1 hc;obtain⟨D,N,h⟩:=hK q hq;have h5:=h.d5;have ha:=h.ra;have hb:=h.rb;rw[aaV];exact ajR q.d q.a q.b q.po J J h.ab J
 refine aFv d1 d2 k1 k2 bg a9 lr oK ri yG (lA.map ko) (lB.map ko) fW fW d w wd hd hw uX (fun c e=>xP (iK c) (iK e)) (fun c=>((iK c).a,(iK c).b)) (fun c e=>xM d (iK c).a (iK c).b (iK e).a (iK e).b) qY uS uD (wR lA hKA) (wR lB hKB) (fun c hc e he=>?_) (fun c hc e he=>aqS ..);obtain⟨p,hp,rfl⟩:=cZ.1 hc;obtain⟨q,hq,rfl⟩:=cZ.1 he;obtain⟨D,N,h⟩:=hKA p hp;obtain⟨D',N',h'⟩:=hKB q hq;show afh _ _ _ d 1 2 (xP (iK (ko p)) (iK (ko q))) (xM d (iK (ko p)).a (iK (ko p)).b (iK (ko q)).a (iK (ko q)).b);rw[aaV,aaV];exact ar3 h h' J
def inS(s:Sp)(x:Rat):Prop:=s.1<=x/\x<=s.2
def aFn(q:jP)(t:Rat):V3:=evV q.po ((t-q.a)/(q.b-q.a))
theorem alB{a b t:Rat}(h:a<b)(h1:a<=t)(h2:t<=b):0<=(t-a)/(b-a)/\(t-a)/(b-a)<=1:=by
 have hp:0<b-a:=ba;have hi:=(aIv hp jM).1;have hr:1/(b-a)*(b-a)=1:=tV ba;have e:(t-a)/(b-a)=1/(b-a)*(t-a):=by rw[gQ,gQ,wm,yQ]
 have m1:=ua (kL hi) (show 0<=t-a by grind);have m2:=ua (kL hi) (show 0<=b-t by grind);rw[e];generalize 1/(b-a)=r at *
 constructor
 ·exact m1
 have:r*(b-t)=r*(b-a)-r*(t-a):=ba;rw[this,hr]at m2;grind
theorem ann{d:Nat}{a t b:Rat}{args:List Rat}(cJ:a<t)(eB:t<b)(ha:∀r,r<d->a<=args.getD r 0/\args.getD r 0<=t){r j:Nat}(hr:r<d)(hj:r<j)(hd:j<d+1):0<=gF (bB d a t b) d d args r j/\gF (bB d a t b) d d args r j<=1:=by
 have e0:(bB d a t b).getD (d-d+j) 0=a:=by rw[fI _ _ _ _ _ J,if_pos J]
 have hK:t<=(bB d a t b).getD (d+j-r) 0:=by
  rw[fI _ _ _ _ _ J,if_neg J];split
  ·exact jM
  exact kL eB
 have h:=ha r hr;unfold gF;rw[e0];exact alB ba h.1 ba
theorem aA6{d:Nat}{a t b:Rat}{args:List Rat}(cJ:a<t)(eB:t<b)(ha:∀r,r<d->t<=args.getD r 0/\args.getD r 0<=b){r j:Nat}(hr:r<d)(hj:r<j)(hd:j<d+1):0<=gF (bB d a t b) d (d+1) args r j/\gF (bB d a t b) d (d+1) args r j<=1:=by
 have e0:(bB d a t b).getD (d+1-d+j) 0<=t:=by
  rw[fI _ _ _ _ _ J];split
  ·exact kL cJ
  rw[if_pos J];exact jM
 have hK:(bB d a t b).getD (d+1+j-r) 0=b:=by rw[fI _ _ _ _ _ J,if_neg J,if_neg J]
 have h:=ha r hr;unfold gF;rw[hK];exact alB ba ba h.2
theorem aj7{n m r:Nat}{x y:Rat}(h:r<n+m):(av n x++av m y).getD r 0=x\/(av n x++av m y).getD r 0=y:=by
 have hm:(av n x++av m y).getD r 0∈av n x++av m y:=dJ mA;rcases nC.1 hm with g|g
 ·exact .inl (uK.1 g).2
 exact .inr (uK.1 g).2
theorem agL{k:List Rat}{d pc:Nat}{v args:List Rat}(hv:∀x∈v,0<x)(hl:pc+1<=v.length)(hp:d<=pc)(hF:∀r j,r<d->r<j->j<d+1->0<=gF k d pc args r j/\gF k d pc args r j<=1):0<dk k d pc v args:=by
 unfold dk;have hlen:((v.drop (pc-d)).take (d+1)).length=d+1:=by rw[fH,jD];omega
 refine au7 (n:=d) (fun r i h1 h2 h3=>hF r i h1 h2 J) (fun x hx=>hv x (yF (yJ hx))) d (bF _) _ (dJ ?_);rw[aan,hlen];omega
theorem apO{d:Nat}{a t b:Rat}{C:List Q4}(cJ:a<t)(eB:t<b)(hC:C.length=d+2)(hw:∀q∈C,0<q.w):∀q∈lI d a t b C,0<q.w:=fun q hq=>by
 obtain⟨j,hj,rfl⟩:=cZ.1 hq;have hj:j<d+1:=rm.1 hj;refine agL (fun x hx=>?_) fW (bF _) (fun r i h1 h2 h3=>ann cJ eB (fun r hr=>?_) h1 h2 h3)
 ·obtain⟨z,hz,rfl⟩:=cZ.1 hx;exact hw z hz
 rcases aj7 (n:=d-j) (m:=j) (x:=a) (y:=t) (r:=r) J with e|e<;>rw[e]<;>constructor<;>grind
theorem anv{d:Nat}{a t b:Rat}{C:List Q4}(cJ:a<t)(eB:t<b)(hC:C.length=d+2)(hw:∀q∈C,0<q.w):∀q∈lP d a t b C,0<q.w:=fun q hq=>by
 obtain⟨i,hi,rfl⟩:=cZ.1 hq;have hi:i<d+1:=rm.1 hi;have hwm:∀x∈C.map (·.w),0<x:=fun x hx=>by obtain⟨z,hz,rfl⟩:=cZ.1 hx;exact hw z hz
 by_cases c:i=0
 ·rw[if_pos c];refine agL hwm fW (bF _) (fun r j h1 h2 h3=>ann cJ eB (fun r hr=>?_) h1 h2 h3);subst c;rcases aj7 (n:=d-0) (m:=0) (x:=t) (y:=b) (r:=r) J with e|e
  ·rw[e];constructor<;>grind
  have:(av (d-0) t++av 0 b).getD r 0=t:=by
   rw[aeI,ey];exact(uK.1 (dJ (p:=av (d-0) t) (i:=r) (by simpa using hr))).2
  rw[this];constructor<;>grind
 rw[if_neg c];refine agL hwm fW J (fun r j h1 h2 h3=>aA6 cJ eB (fun r hr=>?_) h1 h2 h3);rcases aj7 (n:=d-i) (m:=i) (x:=t) (y:=b) (r:=r) J with e|e<;>rw[e]<;>constructor<;>grind
theorem uQ.scale{E F:Nat}{x:Rat}(h:uQ E x):uQ (E*F) x:=by
 obtain⟨α,β,e1,e2⟩:=h;refine⟨α*F,β*F,?_,?_⟩
 ·rw[acS,acS,<-xi,e1]
 rw[acS,acS,<-xi,e2]
theorem aDm{x p q:Rat}{M:Nat}{X P Q:Int}(hM:0<M)(hx:x*((M:Int):Rat)=(X:Rat))(hp:p*((M:Int):Rat)=(P:Rat))(hq:q*((M:Int):Rat)=(Q:Rat))(h1:p<=x)(h2:x<=q)(uw:p<q):uQ (Q-P).toNat ((x-p)/(q-p)):=by
 have hm:=ag1 hM;have hn:q-p≠0:=ba;have a1:((X-P:Int):Rat)=(x-p)*((M:Int):Rat):=by rw[ahE,<-hx,<-hp];grind
 have a2:((Q-X:Int):Rat)=(q-x)*((M:Int):Rat):=by rw[ahE,<-hx,<-hq];grind
 have a3:((Q-P:Int):Rat)=(q-p)*((M:Int):Rat):=by rw[ahE,<-hp,<-hq];grind
 have z1:0<=X-P:=akq.1 (by rw[a1];exact ua ba (kL hm));have z2:0<=Q-X:=akq.1 (by rw[a2];exact ua ba (kL hm));have z3:0<=Q-P:=J;have e:=tV (a:=x-p) hn;refine⟨(X-P).toNat,(Q-X).toNat,?_,?_⟩
 ·rw[ad3 z3,ad3 z1,a3,a1,<-xi,e]
 rw[ad3 z3,ad3 z2,a3,a2,<-xi];have:(1-(x-p)/(q-p))*(q-p)=(q-p)-(x-p)/(q-p)*(q-p):=ba;rw[this,e];grind
theorem anR{k:List Rat}{d pc D N E:Nat}{v args:List Rat}(hv:∀x∈v,cY D N x)(hl:pc+1<=v.length)(hp:d<=pc)(hF:∀r j,r<d->r<j->j<d+1->uQ E (gF k d pc args r j)):cY (D*E^d) (N*E^d) (dk k d pc v args):=by
 unfold dk;have hlen:((v.drop (pc-d)).take (d+1)).length=d+1:=by rw[fH,jD];omega
 refine azr (n:=d) (fun r i h1 h2 h3=>hF r i h1 h2 J) (fun x hx=>hv x (yF (yJ hx))) d (bF _) _ (dJ ?_);rw[aan,hlen];omega
theorem acC{n r:Nat}{x:Rat}(h:r<n):(av n x).getD r 0=x:=by
 rw[bq,zU,if_pos h];rfl
theorem axj{k:List Rat}{d pc:Nat}{t:Rat}{v:List Rat}(hv:v.length=d+1)(hp:d<=pc)(hs:∀i j,i<=pc->pc<j->j<=pc+d->k.getD i 0≠k.getD j 0):∀e,e<=d ->
  sm (e+1) (fun j=>gI k pc t e (pc-e+j)*(cK (gF k d pc (av d t)) v (d-e)).getD (d-e+j) 0)=(cK (gF k d pc (av d t)) v d).getD d 0
 |0,_=>by
  show 0+gI k pc t 0 (pc-0+0)*_=_;rw[gI,if_pos J,aCA,wm];rfl
 |e+1,he=>by
  rw[<-axj (t:=t) hv hp hs e J];obtain⟨C,hC⟩:∃C,C=cK (gF k d pc (av d t)) v (d-(e+1)):=⟨_,rfl⟩;have hCl:C.length=d+1:=by rw[hC,aan,hv]
  obtain⟨N,hN⟩:∃N:Nat->Rat,N=fun j=>gI k pc t e (pc-e+j):=⟨_,rfl⟩;obtain⟨A,hA⟩:∃A:Nat->Rat,A=fun j=>(t-k.getD (pc-e+j) 0)/(k.getD (pc+j+1) 0-k.getD (pc-e+j) 0):=⟨_,rfl⟩;have hC':∀j,j<=e->(cK (gF k d pc (av d t)) v (d-e)).getD (d-e+j) 0=C.getD (d-(e+1)+j) 0+A j*(C.getD (d-(e+1)+(j+1)) 0-C.getD (d-(e+1)+j) 0):=fun j hj=>by
   rw[show d-e=d-(e+1)+1 by omega,cK,<-hC,aaL _ _ _ _ J,if_pos J,hA,gF,acC J,show d-(e+1)+1+j-1=d-(e+1)+j by omega,show d-(e+1)+(j+1)=d-(e+1)+1+j by omega,show pc-d+(d-(e+1)+1+j)=pc-e+j by omega,show pc+(d-(e+1)+1+j)-(d-(e+1))=pc+j+1 by omega]
  have ef:∀j,j<=e+1->gI k pc t (e+1) (pc-(e+1)+j)=(if 1<=j then A (j-1)*N (j-1)else 0)+(if j<=e then(1-A j)*N j else 0):=fun j hj=>by
   rw[gI,if_neg J];congr 1
   ·by_cases h1:1<=j
    ·rw[if_pos h1,hA,hN,show pc-(e+1)+j+(e+1)=pc+(j-1)+1 by omega,show pc-(e+1)+j=pc-e+(j-1) by omega]
    rw[if_neg h1];have hz:gI k pc t e (pc-(e+1)+j)=0:=by
     cases e with
     |zero=>rw[gI,if_neg J]
     |succ e=>rw[gI,if_pos (.inr J)]
    rw[hz,abu]
   by_cases h1:j<=e
   ·rw[if_pos h1,hA,hN,show pc-(e+1)+j+(e+1)+1=pc+j+1 by omega,show pc-(e+1)+j+1=pc-e+j by omega];congr 1;have aZ:=hs (pc-e+j) (pc+j+1) J J J;have c1:(t-k.getD (pc-e+j) 0)/(k.getD (pc+j+1) 0-k.getD (pc-e+j) 0)*(k.getD (pc+j+1) 0-k.getD (pc-e+j) 0)=t-k.getD (pc-e+j) 0:=tV ba;have c2:k.getD (pc+j+1) 0-t=(1-(t-k.getD (pc-e+j) 0)/(k.getD (pc+j+1) 0-k.getD (pc-e+j) 0))*(k.getD (pc+j+1) 0-k.getD (pc-e+j) 0):=ba;rw[c2,acd ba]
   rw[if_neg h1];have hz:gI k pc t e (pc-(e+1)+j+1)=0:=by
    cases e with
    |zero=>rw[gI,if_neg J]
    |succ e=>rw[gI,if_pos (.inl J)]
   rw[hz,abu]
  have e1:sm (e+1+1) (fun j=>gI k pc t (e+1) (pc-(e+1)+j)*C.getD (d-(e+1)+j) 0) =
    sm (e+2) (fun j=>(if 1<=j then A (j-1)*N (j-1)*C.getD (d-(e+1)+j) 0 else 0))+sm (e+2) (fun j=>if j<=e then(1-A j)*N j*C.getD (d-(e+1)+j) 0 else 0):=by
   rw[<-ane];refine acJ _ _ _ fun j hj=>?_;rw[ef j J];split<;>split<;>grind
  have e2:sm (e+2) (fun j=>(if 1<=j then A (j-1)*N (j-1)*C.getD (d-(e+1)+j) 0 else 0))=sm (e+1) (fun j=>A j*N j*C.getD (d-(e+1)+(j+1)) 0):=by
   rw[ax2,if_neg J,aCA];refine acJ _ _ _ fun j hj=>?_;rw[if_pos J,tD]
  have e3:sm (e+2) (fun j=>if j<=e then(1-A j)*N j*C.getD (d-(e+1)+j) 0 else 0)=sm (e+1) (fun j=>(1-A j)*N j*C.getD (d-(e+1)+j) 0):=by
   rw[sm,if_neg J,oc];refine acJ _ _ _ fun j hj=>?_;rw[if_pos J]
  rw[<-hC,e1,e2,e3,<-ane];refine acJ _ _ _ fun j hj=>?_;rw[hC' j J,show gI k pc t e (pc-e+j)=N j by rw[hN]];grind
theorem ap9{k:List Rat}{d pc:Nat}{t:Rat}{v:List Rat}(hv:pc+1<=v.length)(hp:d<=pc)(hs:∀i j,i<=pc->pc<j->j<=pc+d->k.getD i 0≠k.getD j 0):
  sm (d+1) (fun j=>gI k pc t d (pc-d+j)*v.getD (pc-d+j) 0)=dk k d pc v (av d t):=by
 unfold dk;rw[<-axj (t:=t) (by rw[fH,jD];omega) hp hs d (bF _)];refine acJ _ _ _ fun j hj=>?_;rw[uz,cK,fZ];congr 1;simp only[bq,List.getElem?_take,u6];rw[if_pos hj]
theorem adZ(F:Nat->Nat->Rat)(a b:Rat):(cK F [a,b] 1).getD 1 0=a+F 0 1*(b-a):=rfl
theorem abH(F:Nat->Nat->Rat)(a b c:Rat):(cK F [a,b,c] 2).getD 2 0=(a+F 0 1*(b-a))+F 1 2*((b+F 0 2*(c-b))-(a+F 0 1*(b-a))):=rfl
theorem zn(F:Nat->Nat->Rat)(a b c d:Rat):(cK F [a,b,c,d] 3).getD 3 0 =
  ((a+F 0 1*(b-a))+F 1 2*((b+F 0 2*(c-b))-(a+F 0 1*(b-a))))+F 2 3*(((b+F 0 2*(c-b))+F 1 3*((c+F 0 3*(d-c))-(b+F 0 2*(c-b))))-((a+F 0 1*(b-a))+F 1 2*((b+F 0 2*(c-b))-(a+F 0 1*(b-a))))):=rfl
theorem ak6{F G:Nat->Nat->Rat}{v:List Rat}:∀n,(∀r j,r<n->r<j->j<v.length->F r j=G r j)->cK F v n=cK G v n
 |0,_=>rfl
 |n+1,h=>by
  rw[cK,cK,ak6 n fun r j h1 h2 h3=>h r j J h2 h3];unfold ll;refine tQ fun i hi=>?_;have hi:=rm.1 hi;rw[aan]at hi;split
  ·rename_i g;rw[h n i J g hi]
  rfl
theorem ate{n m r:Nat}{x y:Rat}(h:r<n+m):(av n x++av m y).getD r 0=if r<n then x else y:=by
 rw[bq,List.getElem?_append];simp only[oG];split
 ·rw[zU,if_pos (by assumption)];rfl
 rw[zU,if_pos J];rfl
def vS(q:Rat)(X:Nat->Rat)(r j:Nat):Rat:=if j=r+1 then X r else X r*q
def fcZ(d:Nat)(q:Rat)(X:Nat->Rat)(r j:Nat):Rat:=if j=d then X r else q+X r*(1-q)
theorem art{d:Nat}{a t b:Rat}(cJ:a<t)(cm:a<b){args:List Rat}{r j:Nat}(hr:r<d)(hj:r<j)(hd:j<d+1):gF (bB d a t b) d d args r j=vS ((t-a)/(b-a)) (fun r=>(args.getD r 0-a)/(t-a)) r j:=by
 unfold gF vS;rw[fI _ _ _ _ _ J,if_pos J,fI _ _ _ _ _ J,if_neg J];have h1:t-a≠0:=ba;have h2:b-a≠0:=ba;by_cases h:j=r+1
 ·rw[if_pos J,if_pos h]
 rw[if_neg J,if_neg h];grind
theorem azb{d:Nat}{a t b:Rat}(eB:t<b)(cm:a<b){args:List Rat}{r j:Nat}(hr:r<d)(hj:r<j)(hd:j<d+1):gF (bB d a t b) d (d+1) args r j=fcZ d ((t-a)/(b-a)) (fun r=>(args.getD r 0-t)/(b-t)) r j:=by
 unfold gF fcZ;have eh:(bB d a t b).getD (d+1+j-r) 0=b:=by rw[fI _ _ _ _ _ J,if_neg J,if_neg J]
 have el:(bB d a t b).getD (d+1-d+j) 0=if j=d then t else a:=by
  rw[fI _ _ _ _ _ J];by_cases h:j=d
  ·rw[if_neg J,if_pos J,if_pos h]
  rw[if_pos J,if_neg h]
 rw[eh,el];have h1:b-t≠0:=ba;have h2:b-a≠0:=ba;by_cases h:j=d
 ·rw[if_pos h,if_pos h]
 rw[if_neg h,if_neg h];show (args.getD r 0-a)/(b-a)=(t-a)/(b-a)+(args.getD r 0-t)/(b-t)*(1-(t-a)/(b-a));generalize args.getD r 0=x;clear eh el;grind
theorem ang{d:Nat}{a t b:Rat}(cJ:a<t)(cm:a<b){args v:List Rat}{X:Nat->Rat}(hX:∀r,r<d->(args.getD r 0-a)/(t-a)=X r)(hv:d+1<=v.length):dk (bB d a t b) d d v args=(cK (vS ((t-a)/(b-a)) X) (v.take (d+1)) d).getD d 0:=by
 unfold dk;rw[uz,jv];rw[ak6 d fun r j h1 h2 h3=>?_];rw[fH]at h3;rw[art cJ cm h1 h2 J];unfold vS;simp only[hX r h1]
theorem aAS{d:Nat}{a t b:Rat}(eB:t<b)(cm:a<b){args v:List Rat}{X:Nat->Rat}(hX:∀r,r<d->(args.getD r 0-t)/(b-t)=X r)(hv:d+2<=v.length):dk (bB d a t b) d (d+1) v args=(cK (fcZ d ((t-a)/(b-a)) X) ((v.drop 1).take (d+1)) d).getD d 0:=by
 unfold dk;rw[show d+1-d=1 by omega];rw[ak6 d fun r j h1 h2 h3=>?_];rw[fH,jD]at h3;rw[azb eB cm h1 h2 J];unfold fcZ;simp only[hX r h1]
theorem aim{a b s:Rat}(h:a<b)(hs:s=b):(s-a)/(b-a)=1:=by
 have:b-a≠0:=ba;subst hs;grind
theorem apz{a b s:Rat}(h:a<b)(hs:s=a):(s-a)/(b-a)=0:=by
 have:b-a≠0:=ba;subst hs;grind
theorem aM3{d:Nat}{a t b s:Rat}(h1:1<=d)(h3:d<=3)(cJ:a<t)(cm:a<b){v:List Rat}(hv:v.length=d+2):
  fE (1-(s-a)/(t-a)) ((s-a)/(t-a)) d (fun i=>dk (bB d a t b) d d v (av (d-i) a++av i t))=dk (bB d a t b) d d v (av d s):=by
 have hX:∀i,i<=d->∀r,r<d->((av (d-i) a++av i t).getD r 0-a)/(t-a)=(fun r=>if r<d-i then(0:Rat)else 1) r:=fun i hi r hr=>by
  rw[ate J];by_cases c:r<d-i
  ·simp only[if_pos c];exact apz cJ rfl
  simp only[if_neg c];exact aim cJ rfl
 have hS:∀r,r<d->((av d s).getD r 0-a)/(t-a)=(fun _=>(s-a)/(t-a)) r:=fun r hr=>by rw[acC hr]
 rw[ang cJ cm hS J];have e:∀i,i<=d->dk (bB d a t b) d d v (av (d-i) a++av i t)=(cK (vS ((t-a)/(b-a)) (fun r=>if r<d-i then(0:Rat)else 1)) (v.take (d+1)) d).getD d 0:=fun i hi=>ang cJ cm (hX i hi) J;generalize (s-a)/(t-a)=x at *
 generalize (t-a)/(b-a)=q at *
 match d,h1,h3,v,hv with
 |1,_,_,[v0,v1,v2],_ =>
  simp only[fE];rw[e 0 J,e 1 J];show (1-x)*(cK _ [v0,v1] 1).getD 1 0+x*(cK _ [v0,v1] 1).getD 1 0=(cK _ [v0,v1] 1).getD 1 0;rw[adZ,adZ,adZ];simp[vS];grind
 |2,_,_,[v0,v1,v2,v3],_ =>
  simp only[fE];rw[e 0 J,e 1 J,e 2 J];show (1-x)*((1-x)*(cK _ [v0,v1,v2] 2).getD 2 0+x*(cK _ [v0,v1,v2] 2).getD 2 0)+x*((1-x)*(cK _ [v0,v1,v2] 2).getD 2 0+x*(cK _ [v0,v1,v2] 2).getD 2 0)=(cK _ [v0,v1,v2] 2).getD 2 0;rw[abH,abH,abH,abH];simp[vS];grind
 |3,_,_,[v0,v1,v2,v3,v4],_ =>
  simp only[fE];rw[e 0 J,e 1 J,e 2 J,e 3 J];show (1-x)*((1-x)*((1-x)*(cK _ [v0,v1,v2,v3] 3).getD 3 0+x*(cK _ [v0,v1,v2,v3] 3).getD 3 0)+x*((1-x)*(cK _ [v0,v1,v2,v3] 3).getD 3 0+x*(cK _ [v0,v1,v2,v3] 3).getD 3 0))+x*((1-x)*((1-x)*(cK _ [v0,v1,v2,v3] 3).getD 3 0+x*(cK _ [v0,v1,v2,v3] 3).getD 3 0)+x*((1-x)*(cK _ [v0,v1,v2,v3] 3).getD 3 0+x*(cK _ [v0,v1,v2,v3] 3).getD 3 0))=(cK _ [v0,v1,v2,v3] 3).getD 3 0;rw[zn,zn,zn,zn,zn];simp[vS];grind
theorem aGF{d:Nat}{a t b s:Rat}(h1:1<=d)(h3:d<=3)(cJ:a<t)(eB:t<b){v:List Rat}(hv:v.length=d+2):
  fE (1-(s-t)/(b-t)) ((s-t)/(b-t)) d (fun i=>dk (bB d a t b) d (if i=0 then d else d+1) v (av (d-i) t++av i b))=dk (bB d a t b) d (d+1) v (av d s):=by
 have cm:a<b:=ba;have hX:∀i,i<=d->∀r,r<d->((av (d-i) t++av i b).getD r 0-t)/(b-t)=(fun r=>if r<d-i then(0:Rat)else 1) r:=fun i hi r hr=>by
  rw[ate J];by_cases c:r<d-i
  ·simp only[if_pos c];exact apz eB rfl
  simp only[if_neg c];exact aim eB rfl
 have hS:∀r,r<d->((av d s).getD r 0-t)/(b-t)=(fun _=>(s-t)/(b-t)) r:=fun r hr=>by rw[acC hr]
 rw[aAS eB cm hS J];obtain⟨f,hf⟩:∃f:Nat->Rat,f=fun i=>dk (bB d a t b) d (if i=0 then d else d+1) v (av (d-i) t++av i b):=⟨_,rfl⟩;rw[<-hf];have e0:f 0=(cK (vS ((t-a)/(b-a)) (fun _=>1)) (v.take (d+1)) d).getD d 0:=by
  rw[hf];show dk (bB d a t b) d (if 0=0 then d else d+1) v _=_;rw[if_pos rfl];exact ang cJ cm (fun r hr=>by rw[aeI,ey,aie,acC hr];exact aim cJ rfl) J
 have e:∀i,0<i->i<=d->f i=(cK (fcZ d ((t-a)/(b-a)) (fun r=>if r<d-i then(0:Rat)else 1)) ((v.drop 1).take (d+1)) d).getD d 0:=fun i h0 hi=>by
  rw[hf];show dk (bB d a t b) d (if i=0 then d else d+1) v _=_;rw[if_neg J];exact aAS eB cm (hX i hi) J
 clear hf hX hS;generalize (s-t)/(b-t)=x at *
 generalize (t-a)/(b-a)=q at *
 match d,h1,h3,v,hv with
 |1,_,_,[v0,v1,v2],_ =>
  simp only[fE];rw[e0,e 1 J J];show (1-x)*(cK _ [v0,v1] 1).getD 1 0+x*(cK _ [v1,v2] 1).getD 1 0=(cK _ [v1,v2] 1).getD 1 0;rw[adZ,adZ,adZ];simp[vS,fcZ];grind
 |2,_,_,[v0,v1,v2,v3],_ =>
  simp only[fE];rw[e0,e 1 J J,e 2 J J];show (1-x)*((1-x)*(cK _ [v0,v1,v2] 2).getD 2 0+x*(cK _ [v1,v2,v3] 2).getD 2 0)+x*((1-x)*(cK _ [v1,v2,v3] 2).getD 2 0+x*(cK _ [v1,v2,v3] 2).getD 2 0)=(cK _ [v1,v2,v3] 2).getD 2 0;rw[abH,abH,abH,abH];simp[vS,fcZ];grind
 |3,_,_,[v0,v1,v2,v3,v4],_ =>
  simp only[fE];rw[e0,e 1 J J,e 2 J J,e 3 J J];show (1-x)*((1-x)*((1-x)*(cK _ [v0,v1,v2,v3] 3).getD 3 0+x*(cK _ [v1,v2,v3,v4] 3).getD 3 0)+x*((1-x)*(cK _ [v1,v2,v3,v4] 3).getD 3 0+x*(cK _ [v1,v2,v3,v4] 3).getD 3 0))+x*((1-x)*((1-x)*(cK _ [v1,v2,v3,v4] 3).getD 3 0+x*(cK _ [v1,v2,v3,v4] 3).getD 3 0)+x*((1-x)*(cK _ [v1,v2,v3,v4] 3).getD 3 0+x*(cK _ [v1,v2,v3,v4] 3).getD 3 0))=(cK _ [v1,v2,v3,v4] 3).getD 3 0;rw[zn,zn,zn,zn,zn];simp[vS,fcZ];grind
theorem aoc{f:Nat->Rat}{n i:Nat}(h:i<n):((cN n).map f).getD i 0=f i:=by
 rw[bq,jY,List.getElem?_range h];rfl
theorem akg{d:Nat}{a t b s:Rat}(h1:1<=d)(h3:d<=3)(cJ:a<t)(cm:a<b){v:List Rat}(hv:v.length=d+2):
  dq ((cN (d+1)).map fun i=>dk (bB d a t b) d d v (av (d-i) a++av i t)) ((s-a)/(t-a))=dk (bB d a t b) d d v (av d s):=by
 rw[agk aE,cC,atY,tD,<-aM3 h1 h3 cJ cm hv];exact aaq _ _ _ _ _ fun i hi=>aoc J
theorem ajh{d:Nat}{a t b s:Rat}(h1:1<=d)(h3:d<=3)(cJ:a<t)(eB:t<b){v:List Rat}(hv:v.length=d+2):
  dq ((cN (d+1)).map fun i=>dk (bB d a t b) d (if i=0 then d else d+1) v (av (d-i) t++av i b)) ((s-t)/(b-t))=dk (bB d a t b) d (d+1) v (av d s):=by
 rw[agk aE,cC,atY,tD,<-aGF h1 h3 cJ eB hv];exact aaq _ _ _ _ _ fun i hi=>aoc J
theorem ait{d:Nat}{a b s:Rat}(h1:1<=d)(h3:d<=3)(cm:a<b){v:List Rat}(hv:v.length=d+1):dk (a8 d a b) d d v (av d s)=dq v ((s-a)/(b-a)):=by
 have e:dk (a8 d a b) d d v (av d s)=(cK (fun _ _=>(s-a)/(b-a)) v d).getD d 0:=by
  unfold dk;rw[uz,jv,cy J,ak6 d fun r j g1 g2 g3=>?_];unfold gF;rw[acC g1,jz _ _ _ _ J,jz _ _ _ _ J,if_pos J,if_neg J]
 rw[e,agk J,hv,tD];generalize (s-a)/(b-a)=x at *
 match d,h1,h3,v,hv with
 |1,_,_,[v0,v1],_ =>
  rw[adZ];show _=(1-x)*v0+x*v1;grind
 |2,_,_,[v0,v1,v2],_ =>
  rw[abH];show _=(1-x)*((1-x)*v0+x*v1)+x*((1-x)*v1+x*v2);grind
 |3,_,_,[v0,v1,v2,v3],_ =>
  rw[zn];show _=(1-x)*((1-x)*((1-x)*v0+x*v1)+x*((1-x)*v1+x*v2))+x*((1-x)*((1-x)*v1+x*v2)+x*((1-x)*v2+x*v3));grind
def gpt(k:List Rat)(d pc:Nat)(po:List aF)(s:Rat):V3:=kJ (1/dk k d pc (aS po) (av d s)) ⟨dk k d pc (a7 po 0) (av d s),dk k d pc (a7 po 1) (av d s),dk k d pc (a7 po 2) (av d s)⟩
theorem ahB{C:List Q4}(h:∀q∈C,0<q.w):a7 (C.map dz) 0=C.map (·.x)/\a7 (C.map dz) 1=C.map (·.y)/\a7 (C.map dz) 2=C.map (·.z)/\aS (C.map dz)=C.map (·.w):=by
 have g:∀q∈C,∀y:Rat,q.w*(y/q.w)=y:=fun q hq y=>by
  have:=h q hq;rw[yQ];exact tV ba
 unfold a7 aS;simp only[tI];refine⟨?_,?_,?_,?_⟩
 ·exact tQ fun q hq=>g q hq q.x
 ·exact tQ fun q hq=>g q hq q.y
 ·exact tQ fun q hq=>g q hq q.z
 exact tQ fun q hq=>rfl
theorem ami(po:List aF):(po.map de).map (·.x)=a7 po 0/\(po.map de).map (·.y)=a7 po 1/\(po.map de).map (·.z)=a7 po 2/\(po.map de).map (·.w)=aS po:=by
 unfold a7 aS;simp only[tI];exact⟨rfl,rfl,rfl,rfl⟩
theorem ajH{d:Nat}{a t b:Rat}{po:List aF}(h:∀q∈lI d a t b (po.map de),0<q.w):∀k,a7 ((lI d a t b (po.map de)).map dz) k=(cN (d+1)).map fun j=>dk (bB d a t b) d d (a7 po k) (av (d-j) a++av j t):=fun k=>by
 obtain⟨n0,n1,n2,_⟩:=ahB h;obtain⟨m0,m1,m2,_⟩:=ami po
 match k with
 |0=>rw[n0,<-m0];unfold lI;rw[tI];rfl
 |1=>rw[n1,<-m1];unfold lI;rw[tI];rfl
 |k+2 =>
  show a7 ((lI d a t b (po.map de)).map dz) 2=(cN (d+1)).map fun j=>dk (bB d a t b) d d (a7 po 2) (av (d-j) a++av j t);rw[n2,<-m2];unfold lI;rw[tI];rfl
theorem avq{d:Nat}{a t b:Rat}{po:List aF}(h:∀q∈lI d a t b (po.map de),0<q.w):aS ((lI d a t b (po.map de)).map dz)=(cN (d+1)).map fun j=>dk (bB d a t b) d d (aS po) (av (d-j) a++av j t):=by
 rw[(ahB h).2.2.2,<-(ami po).2.2.2];unfold lI;rw[tI];rfl
theorem ajc{d:Nat}{a t b:Rat}{po:List aF}(h:∀q∈lP d a t b (po.map de),0<q.w):∀k,a7 ((lP d a t b (po.map de)).map dz) k=(cN (d+1)).map fun j=>dk (bB d a t b) d (if j=0 then d else d+1) (a7 po k) (av (d-j) t++av j b):=fun k=>by
 obtain⟨n0,n1,n2,_⟩:=ahB h;obtain⟨m0,m1,m2,_⟩:=ami po
 match k with
 |0=>rw[n0,<-m0];unfold lP;rw[tI];rfl
 |1=>rw[n1,<-m1];unfold lP;rw[tI];rfl
 |k+2 =>
  show a7 ((lP d a t b (po.map de)).map dz) 2=(cN (d+1)).map fun j=>dk (bB d a t b) d (if j=0 then d else d+1) (a7 po 2) (av (d-j) t++av j b);rw[n2,<-m2];unfold lP;rw[tI];rfl
theorem aCG{d:Nat}{a t b:Rat}{po:List aF}(h:∀q∈lP d a t b (po.map de),0<q.w):aS ((lP d a t b (po.map de)).map dz)=(cN (d+1)).map fun j=>dk (bB d a t b) d (if j=0 then d else d+1) (aS po) (av (d-j) t++av j b):=by
 rw[(ahB h).2.2.2,<-(ami po).2.2.2];unfold lP;rw[tI];rfl
theorem aIh{d:Nat}{a t b s:Rat}{po:List aF}(h1:1<=d)(h3:d<=3)(cJ:a<t)(cm:a<b)(hl:po.length=d+2)(h:∀q∈lI d a t b (po.map de),0<q.w):evV ((lI d a t b (po.map de)).map dz) ((s-a)/(t-a))=gpt (bB d a t b) d d po s:=by
 unfold evV gpt;rw[ajH h,ajH h,ajH h,avq h,akg h1 h3 cJ cm tU,akg h1 h3 cJ cm tU,akg h1 h3 cJ cm tU,akg h1 h3 cJ cm tU]
theorem aIb{d:Nat}{a t b s:Rat}{po:List aF}(h1:1<=d)(h3:d<=3)(cJ:a<t)(eB:t<b)(hl:po.length=d+2)(h:∀q∈lP d a t b (po.map de),0<q.w):evV ((lP d a t b (po.map de)).map dz) ((s-t)/(b-t))=gpt (bB d a t b) d (d+1) po s:=by
 unfold evV gpt;rw[ajc h,ajc h,ajc h,aCG h,ajh h1 h3 cJ eB tU,ajh h1 h3 cJ eB tU,ajh h1 h3 cJ eB tU,ajh h1 h3 cJ eB tU]
theorem aGN{d:Nat}{a b s:Rat}{po:List aF}(h1:1<=d)(h3:d<=3)(cm:a<b)(hl:po.length=d+1):gpt (a8 d a b) d d po s=evV po ((s-a)/(b-a)):=by
 unfold evV gpt;rw[ait h1 h3 cm tU,ait h1 h3 cm tU,ait h1 h3 cm tU,ait h1 h3 cm tU]
structure mM (po:List aF) (D N:Nat):Prop where
 D0:0<D
 n:∀k,∀x∈a7 po k,cY D N x
 w:∀x∈aS po,cY D N x
 p:∀q∈po,0<q.w
theorem mM.okR{po:List aF}{D N k:Nat}(h:mM po D N)(hN:N<4294967296^k)(hD:D<4294967296^k)(hk:1<=k):∀q∈po,oO k q:=fun q hq=>by
 have hp:=h.p q hq;have hw:=h.w _ (cZ.2 ⟨q,hq,rfl⟩);have g:∀j,rl (q.p.at j)<=k:=fun j=>by
  have:=(h.n j _ (cZ.2 ⟨q,hq,rfl⟩)).div hw h.D0 hN hk;rwa[yQ,acd ba]at this
 exact⟨⟨g 0,g 1,g 2⟩,hw.rl h.D0 hN hD hk,hp⟩
theorem mM.cvK{po:List aF}{d D N:Nat}(h:mM po D N)(hl:po.length=d+1):cvC po d D N:=⟨fun k i hi=>h.n k _ (dJ (by rw[s9];omega)),fun i hi=>h.w _ (dJ (by rw[tb];omega))⟩
theorem anD(E:Nat):uQ E 0:=⟨0,E,by rw[aff];rfl,by rw[show (1:Rat)-0=1 by decide +kernel,wm]⟩
theorem aqL(E:Nat):uQ E 1:=⟨E,0,by rw[wm],by rw[show (1:Rat)-1=0 by decide +kernel,aff];rfl⟩
theorem atL{E:Nat}{q:Rat}(h:uQ E q){X:Nat->Rat}{r:Nat}(hX:X r=0\/X r=1)(j:Nat):uQ E (vS q X r j):=by
 unfold vS;rcases hX with e|e<;>rw[e]
 ·split
  ·exact anD E
  rw[aff];exact anD E
 split
 ·exact aqL E
 rw[wm];exact h
theorem aGl{E d:Nat}{q:Rat}(h:uQ E q){X:Nat->Rat}{r:Nat}(hX:X r=0\/X r=1)(j:Nat):uQ E (fcZ d q X r j):=by
 unfold fcZ;rcases hX with e|e<;>rw[e]
 ·split
  ·exact anD E
  rw[aff,oc];exact h
 split
 ·exact aqL E
 rw[wm,show q+(1-q)=1 by grind];exact aqL E
theorem aAv{n m r:Nat}{x y:Rat}(hxy:x<y)(h:r<n+m):((av n x++av m y).getD r 0-x)/(y-x)=0\/((av n x++av m y).getD r 0-x)/(y-x)=1:=by
 rcases aj7 h with e|e<;>rw[e]
 ·exact .inl (apz hxy rfl)
 exact .inr (aim hxy rfl)
theorem av9{d:Nat}{a t b:Rat}{po:List aF}{D N E:Nat}(cJ:a<t)(eB:t<b)(hl:po.length=d+2)(h:mM po D N)(hE0:0<E)(hE:uQ E ((t-a)/(b-a))):mM ((lI d a t b (po.map de)).map dz) (D*E^d) (N*E^d):=by
 have cm:a<b:=ba;have hw:∀q∈lI d a t b (po.map de),0<q.w:=apO cJ eB (by rw[cC,hl]) fun q hq=>by
  obtain⟨z,hz,rfl⟩:=cZ.1 hq;exact h.p z hz
 have g:∀v:List Rat,v.length=d+2->(∀x∈v,cY D N x)->∀x∈((cN (d+1)).map fun j=>dk (bB d a t b) d d v (av (d-j) a++av j t)),cY (D*E^d) (N*E^d) x:=fun v hv hc x hx=>by
  obtain⟨j,hj,rfl⟩:=cZ.1 hx;have hj:=rm.1 hj;refine anR hc J (bF _) fun r i h1 h2 h3=>?_;rw[art cJ cm h1 h2 h3];exact atL hE (aAv cJ J) _
 refine⟨oR h.D0 (ov hE0),fun k=>?_,?_,fun q hq=>?_⟩
 ·rw[ajH hw];exact g _ tU (h.n k)
 ·rw[avq hw];exact g _ tU h.w
 obtain⟨z,hz,rfl⟩:=cZ.1 hq;exact hw z hz
theorem awS{d:Nat}{a t b:Rat}{po:List aF}{D N E:Nat}(cJ:a<t)(eB:t<b)(hl:po.length=d+2)(h:mM po D N)(hE0:0<E)(hE:uQ E ((t-a)/(b-a))):mM ((lP d a t b (po.map de)).map dz) (D*E^d) (N*E^d):=by
 have cm:a<b:=ba;have hw:∀q∈lP d a t b (po.map de),0<q.w:=anv cJ eB (by rw[cC,hl]) fun q hq=>by
  obtain⟨z,hz,rfl⟩:=cZ.1 hq;exact h.p z hz
 have g:∀v:List Rat,v.length=d+2->(∀x∈v,cY D N x)->∀x∈((cN (d+1)).map fun j=>dk (bB d a t b) d (if j=0 then d else d+1) v (av (d-j) t++av j b)),cY (D*E^d) (N*E^d) x:=fun v hv hc x hx=>by
  obtain⟨j,hj,rfl⟩:=cZ.1 hx;have hj:=rm.1 hj;by_cases c:j=0
  ·rw[if_pos c];refine anR hc J (bF _) fun r i h1 h2 h3=>?_;rw[art cJ cm h1 h2 h3];refine atL hE (.inr ?_) _;subst c;rw[aeI,ey,aie];show ((av d t).getD r 0-a)/(t-a)=1;rw[acC h1];exact aim cJ rfl
  rw[if_neg c];refine anR hc J J fun r i h1 h2 h3=>?_;rw[azb eB cm h1 h2 h3];exact aGl hE (aAv eB J) _
 refine⟨oR h.D0 (ov hE0),fun k=>?_,?_,fun q hq=>?_⟩
 ·rw[ajc hw];exact g _ tU (h.n k)
 ·rw[aCG hw];exact g _ tU h.w
 obtain⟨z,hz,rfl⟩:=cZ.1 hq;exact hw z hz
theorem aJQ{d D N Dp:Nat}{a b:Rat}{po:List aF}(h1:1<=d)(h3:d<=3)(cm:a<b)(ha:rl a<=30)(hb:rl b<=30)(hl:po.length=d+1)(h:mM po D N)(hN:N<4294967296^80)(hD:D<4294967296^80)(qc:Dp<=24):u9 ⟨d,a,b,po⟩ Dp D N:=by
 have hp:(2^Dp)^d<=4294967296^3:=by
  have e1:(2^Dp)^d<=(2^32)^d:=aBk (mN aj J) d;have e2:(2^32)^d<=(2^32)^3:=mN aj h3;exact aP e1 e2
 have g:∀n,n<4294967296^80->n*(2^Dp)^d<4294967296^100:=fun n hn=>by
  have e1:n*(2^Dp)^d<=4294967296^80*4294967296^3:=nP (Nat.le_of_lt hn) hp;refine Nat.lt_of_le_of_lt e1 ?_;rw[<-nw];exact Nat.pow_lt_pow_right aj aj
 refine⟨h3,cm,ha,hb,⟨hl,h1,by show d<=6;omega,fun q hq=>?_⟩,h.cvK hl,h.D0,g N hN,g D hD⟩;have:=h.okR hN hD aj q hq;exact⟨this.1.le aj,aP this.2.1 aj,this.2.2⟩
theorem cY.mono{D N M:Nat}{x:Rat}(h:cY D N x)(hN:N<=M):cY D M x:=by
 obtain⟨z,e,g⟩:=h;exact⟨z,e,J⟩
theorem aeH{z:Int}{N:Nat}(h:z.natAbs<=N):cY 1 N (z:Rat):=⟨z,by rw[show (((1:Nat):Int):Rat)=1 from rfl,Rat.mul_one],h⟩
theorem cY.ao5{D N E M:Nat}{x y:Rat}(h:cY D N x)(g:cY E M y):cY (D*E) (N*M) (x*y):=by
 obtain⟨z,e,hz⟩:=h;obtain⟨u,f,hu⟩:=g;refine⟨z*u,?_,?_⟩
 ·rw[acS,tx,<-e,<-f];grind
 rw[aeS];exact nP hz hu
theorem cY.ajS{D N M:Nat}{x y:Rat}(h:cY D N x)(g:cY D M y):cY D (N+M) (x+y):=by
 obtain⟨z,e,hz⟩:=h;obtain⟨u,f,hu⟩:=g;refine⟨z+u,?_,?_⟩
 ·rw[af6,<-e,<-f];grind
 have:=anX z u;omega
theorem cY.axt{D N M:Nat}{x y:Rat}(h:cY D N x)(g:cY D M y):cY D (N+M) (x-y):=by
 obtain⟨z,e,hz⟩:=h;obtain⟨u,f,hu⟩:=g;refine⟨z-u,?_,?_⟩
 ·rw[ahE,<-e,<-f];grind
 have:=Int.natAbs_sub_le z u;omega
theorem aPj{D N:Nat}{w:Rat}(h:cY D N w)(h0:0<w)(hD:0<D):∃M:Nat,0<M/\M<=N/\w*((D:Int):Rat)=((M:Int):Rat):=by
 obtain⟨z,e,g⟩:=h;have hz:0<z:=aaw.1 (by rw[<-e];exact zW h0 (ag1 hD));exact⟨z.toNat,J,J,by rw[e,ad3 J]⟩
theorem aqr{D N M:Nat}{n w:Rat}(h:cY D N n)(hM:w*((D:Int):Rat)=((M:Int):Rat))(hw:w≠0):cY M N (1/w*n):=by
 obtain⟨z,e,g⟩:=h;refine⟨z,?_,g⟩;rw[<-hM,<-e];have:1/w*w=1:=tV hw;have e2:1/w*n*(w*((D:Int):Rat))=(1/w*w)*(n*((D:Int):Rat)):=ba;rw[e2,this,wm]
theorem aqK{M Z:Nat}{x p q:Rat}(hM:0<M)(hx:cY M Z x)(hp:cY M Z p)(hq:cY M Z q)(h1:p<=x)(h2:x<=q)(uw:p<q):∃E,0<E/\E<=2*Z/\uQ E ((x-p)/(q-p)):=by
 obtain⟨X,ex,_⟩:=hx;obtain⟨P,ep,gp⟩:=hp;obtain⟨Q,eq_,gq⟩:=hq;have bV:0<Q-P:=by
  have e:((Q-P:Int):Rat)=(q-p)*((M:Int):Rat):=by rw[ahE,<-ep,<-eq_];grind
  exact aaw.1 (by rw[e];exact zW ba (ag1 hM))
 exact⟨(Q-P).toNat,J,J,aDm hM ex ep eq_ h1 h2 uw⟩
theorem aMG{po:List aF}{d D N E:Nat}(h:mM po D N)(hl:po.length=d+1){x:Rat}(hx:uQ E x)(hE:0<E)(h0:0<=x)(h1:x<=1):∃M,0<M/\M<=N*E^d/\∀k,k<3->cY M (N*E^d) ((evV po x).at k):=by
 have l1:(aS po).length=d+1:=by rw[tb,hl]
 have l2:∀k,(a7 po k).length=d+1:=fun k=>by rw[s9,hl]
 have ew:dq (aS po) x=fE (1-x) x d (fun i=>(aS po).getD i 0):=by rw[agk J,l1,tD]
 have en:∀k,dq (a7 po k) x=fE (1-x) x d (fun i=>(a7 po k).getD i 0):=fun k=>by rw[agk (by rw[l2];omega),l2,tD]
 have cw:cY (D*E^d) (N*E^d) (dq (aS po) x):=by rw[ew];exact ahd hx d _ fun i hi=>h.w _ (dJ J)
 have cn:∀k,cY (D*E^d) (N*E^d) (dq (a7 po k) x):=fun k=>by rw[en];exact ahd hx d _ fun i hi=>h.n k _ (dJ (by rw[l2];omega))
 have hp:0<dq (aS po) x:=by
  rw[ew];refine agV ba h0 ba d _ fun i hi=>?_;rw[aqU J];exact h.p _ (qo J)
 obtain⟨M,m0,m1,m2⟩:=aPj cw hp (oR h.D0 (ov hE));refine⟨M,m0,m1,fun k hk=>?_⟩
 match k,hk with
 |0,_=>exact aqr (cn 0) m2 ba
 |1,_=>exact aqr (cn 1) m2 ba
 |2,_=>exact aqr (cn 2) m2 ba
structure rI (d:Nat) (k:List Rat) (po:List aF) (a b:Rat):Prop where
 d1:1<=d
 d3:d<=3
 ab:a<b
 ca:cY 2 20 a
 cb:cY 2 20 b
 kn:k=a8 d a b/\po.length=d+1\/∃t,a<t/\t<b/\cY 2 20 t/\k=bB d a t b/\po.length=d+2
theorem td{x:Rat}(h:cY 2 20 x):rl x<=1:=h.rl aj aj aj aj
def nO(d:Nat)(k:List Rat)(po:List aF):List jP :=
 if po.length=d+1 then [⟨d,k.getD 0 0,k.getD (d+1) 0,po⟩]
 else [⟨d,k.getD 0 0,k.getD (d+1) 0,(lI d (k.getD 0 0) (k.getD (d+1) 0) (k.getD (d+2) 0) (po.map de)).map dz⟩,⟨d,k.getD (d+1) 0,k.getD (d+2) 0,(lP d (k.getD 0 0) (k.getD (d+1) 0) (k.getD (d+2) 0) (po.map de)).map dz⟩]
theorem adq{d:Nat}{a b:Rat}{po:List aF}(h:po.length=d+1):nO d (a8 d a b) po=[⟨d,a,b,po⟩]:=by
 unfold nO;rw[if_pos h,jz _ _ _ _ J,jz _ _ _ _ J,if_pos J,if_neg J]
theorem ahh{d:Nat}{a t b:Rat}{po:List aF}(h:po.length=d+2):nO d (bB d a t b) po=[⟨d,a,t,(lI d a t b (po.map de)).map dz⟩,⟨d,t,b,(lP d a t b (po.map de)).map dz⟩]:=by
 unfold nO;have e0:(bB d a t b).getD 0 0=a:=by rw[fI _ _ _ _ _ J,if_pos J]
 have e1:(bB d a t b).getD (d+1) 0=t:=by rw[fI _ _ _ _ _ J,if_neg J,if_pos J]
 have e2:(bB d a t b).getD (d+2) 0=b:=by rw[fI _ _ _ _ _ J,if_neg J,if_neg J]
 rw[if_neg J,e0,e1,e2]
structure pcC (d D N:Nat) (q:jP):Prop where
 dd:q.d=d
 c:mM q.po D N
 l:q.po.length=d+1
 ab:q.a<q.b
 ca:cY 2 20 q.a
 cb:cY 2 20 q.b
theorem aoE{E F d:Nat}(h:E<=F)(hF:0<F)(hd:d<=3):E^d<=F^3:=aP (aBk h d) (mN hF hd)
theorem rI.pcs{d:Nat}{k:List Rat}{po:List aF}{a b:Rat}{D N:Nat}(h:rI d k po a b)(c:mM po D N):∃E,0<E/\E<=40/\∀q∈nO d k po,pcC d (D*E^d) (N*E^d) q:=by
 rcases h.kn with⟨rfl,hl⟩|⟨t,h1,h2,ht,rfl,hl⟩
 ·refine⟨1,by decide,by decide,fun q hq=>?_⟩;rw[adq hl]at hq;rw[iM.1 hq,Nat.one_pow,lJ,lJ];exact⟨rfl,c,hl,h.ab,h.ca,h.cb⟩
 obtain⟨E,e0,e1,e2⟩:=aqK aj ht h.ca h.cb (kL h1) (kL h2) h.ab;refine⟨E,e0,e1,fun q hq=>?_⟩;rw[ahh hl]at hq;simp only[dS,jR,or_false]at hq;rcases hq with rfl|rfl
 ·exact⟨rfl,av9 h1 h2 hl c e0 e2,by simp[lI],h1,h.ca,ht⟩
 exact⟨rfl,awS h1 h2 hl c e0 e2,by simp[lP],h2,ht,h.cb⟩
def sfP(T:V3)(q:aF):aF:=⟨v3a q.p T,q.w⟩
theorem aK0{po:List aF}{D N M Z:Nat}{T:V3}(h:mM po D N)(hM:0<M)(hT:∀k,k<3->cY M Z (T.at k)):mM (po.map (sfP T)) (D*M) (N*M+N*Z):=by
 have at_:∀(p q:V3) (k:Nat),(v3a p q).at k=p.at k+q.at k:=fun p q k=>by
  match k with
  |0=>rfl
  |1=>rfl
  |k+2=>rfl
 have hT':∀k,cY M Z (T.at k):=fun k=>by
  match k with
  |0=>exact hT 0 aj
  |1=>exact hT 1 aj
  |k+2=>exact hT 2 aj
 refine⟨oR h.D0 hM,fun k x hx=>?_,fun x hx=>?_,fun q hq=>?_⟩
 ·obtain⟨q,hq,rfl⟩:=cZ.1 hx;obtain⟨y,hy,rfl⟩:=cZ.1 hq;show cY _ _ (y.w*(v3a y.p T).at k);rw[at_,Rat.mul_add];exact(h.n k _ (cZ.2 ⟨y,hy,rfl⟩)).scale.ajS ((h.w _ (cZ.2 ⟨y,hy,rfl⟩)).ao5 (hT' k))
 ·obtain⟨q,hq,rfl⟩:=cZ.1 hx;obtain⟨y,hy,rfl⟩:=cZ.1 hq;exact(h.w _ (cZ.2 ⟨y,hy,rfl⟩)).scale.mono (Nat.le_add_right _ _)
 obtain⟨y,hy,rfl⟩:=cZ.1 hq;exact h.p y hy
def xN(l:List Int)(k m:Nat):Nat:=kiN l (cf l k) m
def xK(l:List Int)(k n m:Nat):List Rat:=knX l (cD l k n) (cf l k) m
def xJ(l:List Int)(k n m:Nat):Nat:=(kiR l (cD l k n) (cf l k) m).2.2
def xE(l:List Int)(k n m:Nat):Nat:=dqK l (xJ l k n m) (cD l k n+1+xN l k m)
theorem avy(l:List Int)(k:Nat){n m:Nat}(hl:l.length<=500)(hk:k<=500)(hn:0<n)(hn6:n<=6)(hm:m<=2):kOK (xK l k n m) (cD l k n)/\(xK l k n m).length=2*(cD l k n+1)+xN l k m/\xJ l k n m<=500/\∀x∈xK l k n m,rl x<=64:=by
 obtain⟨iG,hd2,hd3⟩:=anV l k hn;obtain⟨hN1,hN2⟩:=ajT l (cf l k) m;obtain⟨hT,hT1⟩:=aBy l (cf l k);have fR:rl 1=1:=rfl;obtain⟨g6,t,j',e,hil,uT,hrt,bV⟩:=aMo l (d:=cD l k n) (n:=kiN l (cf l k) m) (T:=od l (cf l k)) iG J hT (cf l (cf l (cf l k)));have ht1:=kO t 1;have eK:xK l k n m=kx (cD l k n) (od l (cf l k)) g6 (t+1):=by
  unfold xK knX kiR kx;rw[e,pn]
 have fe:kOK (xK l k n m) (cD l k n):=by rw[eK];exact ayR iG J J J bV uT
 refine⟨fe,?_,?_,fe.sz⟩
 ·rw[eK,arJ,hil];rfl
 have k1:=pE (l:=l) hl hk;have k2:=pE (l:=l) hl k1;have k3:=pE (l:=l) hl k2;have gen:∀(c:Nat) (K:List Rat) (t:Rat) (j:Nat),j<=500->(q7 l (cD l k n) c K t j).2.2<=500:=by
  intro c
  induction c with
  |zero=>intro K t j hj;exact hj
  |succ c ih =>
   intro K t j hj;rw[q7];split
   ·exact ih _ _ _ (pE hl (pE hl (ahw hl hj)))
   exact ih _ _ _ (ahw hl hj)
 exact gen _ _ _ _ k3
def dpF(l:List Int)(k:Nat):aF:=⟨⟨(d3V l k).x,(d3V l k).y,0⟩,dwV l (d3K l k)⟩
def dqF(l:List Int):Nat->Nat->List aF
 |_,0=>[]
 |k,c+1=>dpF l k::dqF l (dpK l k) c
theorem au8(l:List Int):∀k c,(dqF l k c).length=c
 |_,0=>rfl
 |k,c+1=>by simp[dqF,au8 l]
def xF(l:List Int)(k n m:Nat):List aF:=dqF l (xJ l k n m) (cD l k n+1+xN l k m)
theorem akY(l:List Int)(k n m:Nat):(xF l k n m).length=cD l k n+1+xN l k m:=au8 _ _ _
def smP(q:aF):Prop:=(∀j,cY 12 72 (q.p.at j))/\cY 1 3 q.w/\0<q.w/\q.p.z=0
theorem azB(l:List Int)(k:Nat):cY 12 72 (qg l k).1:=by
 have h1:=rv (l:=l) (k:=k) (n:=13) aj;have h2:=rv (l:=l) (k:=cf l (cf l k)) (n:=4) aj;unfold qg;split
 ·show cY 12 72 (((gZ l k 13-6:Int):Rat)/((1+gZ l (cf l (cf l k)) 4:Int):Rat));generalize gZ l k 13=u at *
  generalize gZ l (cf l (cf l k)) 4=v at *
  have hv:v=0\/v=1\/v=2\/v=3:=J;rcases hv with rfl|rfl|rfl|rfl
  ·refine⟨(u-6)*12,?_,J⟩;rw[tx,show ((1+0:Int):Rat)=1 by decide +kernel,show (((12:Nat):Int):Rat)=12 by decide +kernel,show ((12:Int):Rat)=12 by decide +kernel];generalize ((u-6:Int):Rat)=x;grind
  ·refine⟨(u-6)*6,?_,J⟩;rw[tx,show ((1+1:Int):Rat)=2 by decide +kernel,show (((12:Nat):Int):Rat)=12 by decide +kernel,show ((6:Int):Rat)=6 by decide +kernel];generalize ((u-6:Int):Rat)=x;grind
  ·refine⟨(u-6)*4,?_,J⟩;rw[tx,show ((1+2:Int):Rat)=3 by decide +kernel,show (((12:Nat):Int):Rat)=12 by decide +kernel,show ((4:Int):Rat)=4 by decide +kernel];generalize ((u-6:Int):Rat)=x;grind
  refine⟨(u-6)*3,?_,J⟩;rw[tx,show ((1+3:Int):Rat)=4 by decide +kernel,show (((12:Nat):Int):Rat)=12 by decide +kernel,show ((3:Int):Rat)=3 by decide +kernel];generalize ((u-6:Int):Rat)=x;grind
 exact((aeH (N:=6) (show (gZ l k 13-6).natAbs<=6 by omega)).scale (E:=12)).mono aj
theorem aOD(l:List Int)(k:Nat):cY 1 3 (dwV l k):=by
 have:=amU l k;exact aeH J
theorem anE(D N:Nat):cY D N 0:=⟨0,by rw[aff];rfl,bW _⟩
theorem anN(l:List Int):∀k c,∀q∈dqF l k c,smP q
 |_,0,q,h=>by simp[dqF]at h
 |k,c+1,q,h=>by
  simp only[dqF,dS]at h;rcases h with rfl|h
  ·refine⟨fun j=>?_,aOD _ _,aMW _ _,rfl⟩
   match j with
   |0=>exact azB _ _
   |1=>exact azB _ _
   |j+2=>exact anE _ _
  exact anN l _ c q h
theorem ah0{po:List aF}(h:∀q∈po,smP q):mM po 12 216:=by
 refine⟨by decide,fun k x hx=>?_,fun x hx=>?_,fun q hq=>(h q hq).2.2.1⟩
 ·obtain⟨q,hq,rfl⟩:=cZ.1 hx;exact(h q hq).2.1.ao5 ((h q hq).1 k)
 obtain⟨q,hq,rfl⟩:=cZ.1 hx;exact((h q hq).2.1.scale (E:=12)).mono aj
theorem aGM(l:List Int)(k:Nat):cY 2 4 (od l k):=by
 have h:=rv (l:=l) (k:=k) (n:=4) aj;exact(aeH (N:=2) (show (gZ l k 4-2).natAbs<=2 by omega)).scale (E:=2)
theorem aLv(l:List Int)(j:Nat):cY 2 6 (nI l j):=by
 have h1:=rv (l:=l) (k:=j) (n:=3) aj;have h2:=rv (l:=l) (k:=cf l j) (n:=2) aj;unfold nI;generalize gZ l j 3=u at *
 generalize gZ l (cf l j) 2=v at *
 have hv:v=0\/v=1:=J;rcases hv with rfl|rfl
 ·refine⟨(1+u)*2,?_,J⟩;rw[tx,show ((1+0:Int):Rat)=1 by decide +kernel,show (((2:Nat):Int):Rat)=2 by decide +kernel,show ((2:Int):Rat)=2 by decide +kernel];generalize ((1+u:Int):Rat)=x;grind
 refine⟨1+u,?_,J⟩;rw[show ((1+1:Int):Rat)=2 by decide +kernel,show (((2:Nat):Int):Rat)=2 by decide +kernel];generalize ((1+u:Int):Rat)=x;grind
theorem aAy:cY 2 2 1:=(aeH (z:=1) (N:=1) aj).scale (E:=2)
def xA(l:List Int)(k:Nat):Rat:=od l (cf l k)
def xB(l:List Int)(k n:Nat):Rat:=(kiR l (cD l k n) (cf l k) 1).2.1+1
theorem aAW(l:List Int)(k n:Nat)(hn:0<n)(h3:n<=3)(po:List aF)(hl:po.length=cD l k n+1+xN l k 1):rI (cD l k n) (xK l k n 1) po (xA l k) (xB l k n):=by
 obtain⟨d1,d2,_⟩:=anV l k hn;have hN:=(ajT l (cf l k) 1).2;have ca:=aGM l (cf l k);have nz:∀x:Rat,cY 2 10 x->cY 2 20 (x+1):=fun x h=>(h.ajS aAy).mono aj;unfold xK xB xA knX kiR;unfold xN at hl;rcases(show kiN l (cf l k) 1=0\/kiN l (cf l k) 1=1 by omega)with e|e
 ·rw[e]at hl ⊢;rw[q7];exact⟨d1,J,by grind,ca.mono aj,nz _ (ca.mono aj),.inl ⟨rfl,J⟩⟩
 rw[e]at hl ⊢;have hb:ux l (cD l k n) (av (cD l k n+1) (od l (cf l k))) (od l (cf l k)) (cf l (cf l (cf l k))):=.inl aE;rw[q7,if_pos hb,q7];have hF:=(afe l (ia l (cD l k n) (av (cD l k n+1) (od l (cf l k))) (cf l (cf l (cf l k))))).1;have hc:=aLv l (ia l (cD l k n) (av (cD l k n+1) (od l (cf l k))) (cf l (cf l (cf l k))));generalize nI l _=f at *
 have ct:cY 2 10 (od l (cf l k)+f):=ca.ajS hc;refine⟨d1,J,by grind,ca.mono aj,nz _ ct,.inr ⟨od l (cf l k)+f,by grind,by grind,ct.mono aj,?_,J⟩⟩;unfold bB kq;simp
open aog in
theorem aED(l:List Int)(k:Nat)(hl:l.length<=500)(hk:k<=500):pe ai 50 ⟨2,[jL l k],true⟩ [.aB 0 2 0 0,bL true] (aA (dpF l k)) ⟨2,[jL l (dpK l k)],true⟩:=by
 have k1:=auG (l:=l) hl hk;have hb:=rv (l:=l) (k:=d3K l k) (n:=3) aj;have hd:=amU l (d3K l k);refine fnM Tryz.func50 ?_;refine bH ?_;refine ub 0 rfl rfl rfl (gC l _) (.cons .ptr .nil) .ptr (aKX l k J J) rfl (gC l _) (cu.pure _) ?_;refine b7 ?_;refine aD rfl ?_ ?_<;>intro nX h8
 ·refine bn ?_;refine pg ?_;refine aW ?_;refine ack ?_;refine jy 0 1 _ _ aG rfl rfl ?_ ?_
  ·refine eT ?_;refine di 1 _ aG rfl ?_;refine eT ?_;refine di 2 _ aG rfl ?_;refine apP ?_;refine apn ?_;exact ak1
  refine eT ?_;refine jy 0 2 _ _ aG rfl rfl ?_ ?_
  ·refine eT ?_;refine di 2 _ aG rfl ?_;refine apP ?_;refine apn ?_;exact ak1
  refine apP ?_;refine jy 0 5 _ _ aG rfl rfl ?_ ?_
  ·refine eT ?_;refine apn ?_;exact ak1
  refine cp cr (nZ (1+(gZ l (d3K l k) 3).tmod 3) J J) ?_;refine iy ?_;refine di 0 _ aG rfl ?_;refine eT ?_;refine aCt ?_;refine bc ?_;exact ak1
 first|exact absurd nX aj|cases nX|exact absurd rfl h8
theorem az7:∀(l:List (Nat×aV)) (c:Nat),hp l c≠none->c∈l.map (·.1)
 | [],c,h=>absurd rfl h
 |(d,y)::t,c,h=>by
   by_cases e:c=d
   ·simp[e]
   have:oV c d=false:=by rw[<-y9,uy];exact e
   simp only[hp,this,cond_false]at h;simp only[nK,dS];exact .inr (az7 t c h)
theorem aKa{P:Program}{L:St}{a b d n len:Nat}{T:TypeId}{x y:LV}{m ag:Bool}{b0:aV}{l:List (Nat×aV)}{v:List LV}(hl:L.heap=hp l)(h:L.slot a=.aB b 3 0 0)(hb:hp l b=some ⟨3,[.agg [x,y,.ref d 12 0 len]],m⟩)
  (hcs:LV.aq (.agg [x,y,.ref d 12 0 len])=3) (cJ:LV.at (.agg [x,y,.ref d 12 0 len]) 0 n ag=some (.agg [x,y,.ref d 12 0 len])) (hT:bS P T n ag) (h0:hp l 0=some b0) (jh:aO b0.vals=true) (hx:x.pure=true) (hy:y.pure=true) (lY:d≠0) (gh:b≠0) (tH:d≠b)
  (abg:∀c∈l.map (·.1),c≠0->c=d\/c=b) (h1:hp l d=some ⟨12,v,true⟩) (hv:aO v=true):ajV P [.cell a T] L (.agg [x,y,.ref 1 12 0 len]) b0 [⟨12,v,true⟩,⟨3,[.agg [x,y,.ref 1 12 0 len]],m⟩]:=by
 have lK:rJ [d,b] d=1:=by simp[rJ,lY]
 have hr:dL (rJ [d,b]) [.agg [x,y,.ref d 12 0 len]]=[.agg [x,y,.ref 1 12 0 len]]:=by
  simp only[dL,LV.b8,LV.db _ _ hx,LV.db _ _ hy,lK]
 refine⟨[.agg [x,y,.ref d 12 0 len]],[d,b],b0,by rw[hl];exact h0,by rw[my _ _ jh],.cons ⟨b,3,0,0,_,_,n,ag,h,by rw[hl];exact hb,rfl,rfl,hcs,cJ,hT⟩ .nil,fun z hz=>by rw[iM.1 hz];exact⟨by simp,by simp⟩,by simp[tH],by simp[Ne.symm lY,Ne.symm gh],fun c hc hh=>?_,fun k c hk=>?_,by rw[hr];rfl⟩
 ·rw[hl]at hh;rcases abg c (az7 l c hh) hc with e|e<;>simp[e]
 match k with
 |0 =>
  simp only[o8,gj]at hk;subst hk;exact⟨_,by rw[hl];exact h1,by simp only[o8,my _ _ hv]⟩
 |1 =>
  simp only[adO,o8,gj]at hk;subst hk;exact⟨_,by rw[hl];exact hb,by simp only[adO,o8,hr]⟩
 |k+2=>simp at hk
theorem aKF{P:Program}{f:FuncId}{blk c1 blk' b2:aV}{args:List LV}{x y:LV}{sz n:Nat}{vals:List LV}(h:zo P f blk c1 args (.agg [x,y,.ref 1 sz 0 n]) blk' [⟨sz,vals,true⟩,b2])(hx:x.pure=true)(hy:y.pure=true)(hp:aO vals=true)(hn:vals.length=n)(rM:aO blk'.vals=true):pe P f blk args (.agg [x,y,.list sz vals]) blk':=by
 refine⟨h.1,fun W Z0 vs i0 hz hi hb hr=>Calls.mono (h.2 W Z0 vs i0 (uP i0) hz rfl (fun k id e=>?_) (fun k k' id e e'=>?_) hr) (fun e w' ⟨v,μ,Z,he,hc,hv⟩=>?_)⟩
 ·match k,e with
  |0,e=>cases e;exact⟨hi,blk,rfl,hb⟩
 ·match k,k',e,e' with
  |0,0,_,_=>rfl
 have hI:dt ((⟨fun t=>[LV.agg [x,y,.ref 1 sz 0 n]].getD t .any,sO blk' [⟨sz,vals,true⟩,b2]⟩:St).b9 [1]).heap (.ref 1 sz 0 n) (.list sz vals):=by
  have:=dt.ref (H:=((⟨fun t=>[LV.agg [x,y,.ref 1 sz 0 n]].getD t .any,sO blk' [⟨sz,vals,true⟩,b2]⟩:St).b9 [1]).heap) (off:=0) (len:=n) (b:=1) (blk:=⟨sz,vals,false⟩) rfl rfl hp (by simp[hn]) rfl;simpa[<-hn]using this
 obtain⟨-,-,bE,Z',k1,k2⟩:=((au.b9 (L:=⟨fun t=>[LV.agg [x,y,.ref 1 sz 0 n]].getD t .any,sO blk' [⟨sz,vals,true⟩,b2]⟩) (t:=0) (y:=.agg [x,y,.list sz vals]) [1] rfl rfl (.agg (.cons (.pure hx) (.cons (.pure hy) (.cons hI .nil))))).trans ((au.kill _ 1).trans (au.kill _ 2))) 1 W _ Z0 ⟨#[v],[]⟩ w' ⟨rfl,rfl,μ,Z,hc,fun t=>match t with|0=>hv|_+1=>trivial⟩;have hq:(LV.agg [x,y,.list sz vals]).pure=true:=by simp[LV.pure,aO,hx,hy,hp]
 have hX:XS.two i0 (uP i0)=XS.one i0:=by
  simp only[XS.two,XS.one,XS.mk.injEq,true_and];funext id;simp only[eq_iff_iff,iff_false];rintro⟨k,h0,h⟩;simp[uP,h0]at h
 have hH:∀s:Nat->LV,((((((⟨s,sO blk' [⟨sz,vals,true⟩,b2]⟩:St).b9 [1]).put (some 0) (.agg [x,y,.list sz vals])).kill 1).kill 2).heap)=adi blk':=fun s=>by
  funext b
  match b with
  |0 =>
      show some (aV.mk _ (bC 2 (bC 1 _)) _)=some blk';rw[adI _ _ rM,adI _ _ rM];simp
  |1=>rfl
  |2=>rfl
  |b+3=>rfl
 rw[hX]at k1;exact⟨v,bE,Z',he,hH _▸k1,(by have:=k2 0;rwa[show St.slot _ 0=LV.kill 2 (LV.kill 1 (.agg [x,y,.list sz vals])) from rfl,LV.oH 1 _ hq,LV.oH 2 _ hq]at this)⟩
namespace aBQ
theorem aJ{p q:Prop}(k:q)(e:p=q:=by simp only[bD,bo,bp,bh,l1,acu,gz,cC,jt,dR,fX,cC,dD,du,dC,reduceIte,if_true,if_false,aeG,aiC,dO ez,dO ao,kT,qV,LV.kill,bC,aiD];exact rfl):p:=e.mpr k
end aBQ
open aBQ in
theorem aCc(l:List Int)(k:Nat)(hl:l.length<=500)(n:Nat)(hn:0<n)(hn6:n<=6)(m:Nat)(hm:m<=2)(hk:k<=500):zo ai 17 ⟨2,[jL l k],true⟩ ⟨12,[],true⟩ [.aB 0 2 0 0,ah n,ah m,bL true] (.agg [ah (cD l k n),.list 3 ((xK l k n m).map ae),.ref 1 12 0 ((cD l k n)+1+xN l k m)]) ⟨2,[jL l (xE l k n m)],true⟩ [⟨12,(xF l k n m).map aA,true⟩,⟨3,[.agg [ah (cD l k n),.list 3 ((xK l k n m).map ae),.ref 1 12 0 ((cD l k n)+1+xN l k m)]],true⟩]:=by
 have k1:=pE (l:=l) hl hk;have k2:=pE (l:=l) hl k1;obtain⟨iG,hd2,hd3⟩:=anV l k hn;have hb:=rv (l:=l) (k:=k) (n:=(n:Int)) J;have gD:1+gZ l k (n:Int)=(((cD l k n):Nat):Int):=hd3.symm;have hA:eO .add .i64 1 (gZ l k (n:Int))=some (.int .i64 (((cD l k n):Nat):Int)):=by rw[<-gD];exact w6 J J
 obtain⟨fe,gz,k3,aQp⟩:=avy l k (n:=n) (m:=m) hl hk hn hn6 hm;obtain⟨hN1,hN2⟩:=ajT l (cf l k) m;have hxN:xN l k m<=2:=by unfold xN;omega
 have hkp:=eY ao 3 (xK l k n m);refine fnC Tryz.func17 ?_;refine bM ?_;refine ub 0 rfl rfl rfl (gC l _) (.cons .ptr (.cons (.dH (.pure rfl)) .nil)) .ptr (zI l k n J J J J) rfl (gC l _) rfl ?_;refine al rfl (.bin rfl rfl (hA)) ?_;refine bN ?_;refine ub 0 rfl rfl rfl (gC l _) (.cons .ptr (.cons (.dH (.pure rfl)) (.cons (.dH (.pure rfl)) .nil))) .ptr (aNA l (cf l k) J (cD l k n) J J m hm J) rfl (gC l _) hkp ?_;refine bN ?_;refine iS (au.kill _ 1) ?_;refine iS ((au.cell 9 rfl (fun Z μ w cs h=>aeB 39 12 _ _ Z μ w cs h)).trans (au.qy _ 39 12 rfl)) ?_;refine wz (fun(c j:Nat) (o:List aF) L=>(mS L [(0,⟨2,[jL l j],true⟩),(8,⟨3,[.agg [.v (.int .i64 0),.v (.slice none 0 0),.v (.slice none 0 0)]],true⟩),(9,⟨3,[.agg [ah (cD l k n),.list 3 ((xK l k n m).map ae),.ref 39 12 0 o.length]],true⟩),(39,⟨12,o.map aA,true⟩)] [(10,ah o.length),(9,.aB 9 3 0 0),(8,.aB 8 3 0 0),(3,bL true),(0,.aB 0 2 0 0)])) (fun c j o=>j<=500/\o.length+c=(cD l k n)+1+xN l k m/\o++dqF l j c=xF l k n m/\dqK l j c=xE l k n m) (fun c j o=>c) ((cD l k n)+1+xN l k m) (xJ l k n m) ([]) ⟨k3,by simp,rfl,rfl⟩ ?_;rintro c j o L1 ⟨hj,ho,hV,hK⟩;refine bM ?_;refine al rfl vX ?_;refine al rfl vX ?_;refine bI ?_;refine aD rfl ?_ ?_<;>intro abK yq
 ·obtain⟨e,rfl⟩:∃e,c=e+1:=⟨c-1,J⟩;refine aK ?_;refine iZ (fun L=>∃  (L1:St),(True)/\L=(mS L1 [(0,⟨2,[jL l (dpK l j)],true⟩),(8,⟨3,[.agg [.v (.int .i64 0),.v (.slice none 0 0),.v (.slice none 0 0)]],true⟩),(9,⟨3,[.agg [ah (cD l k n),.list 3 ((xK l k n m).map ae),.ref 39 12 0 (o.length+1)]],true⟩),(38,⟨12,[dpF l j].map aA,true⟩),(39,⟨12,(o++[dpF l j]).map aA,true⟩)] [(10,ah o.length),(9,.aB 9 3 0 0),(8,.aB 8 3 0 0),(3,bL true),(0,.aB 0 2 0 0)])) ?_ ?_
  ·refine ack ?_;refine fx 3 rfl rfl aG (.pure (.move _)) gu fy ?_
   repeat' first
    |(refine pb aG ?_;refine bn ?_;exact⟨_,trivial,eW⟩)
    |refine jy 0 2 _ _ aG rfl rfl ?_ ?_
    |refine jy 1 2 _ _ aG rfl rfl ?_ ?_
    |refine di 2 _ aG rfl ?_
    |refine di 4 _ aG rfl ?_
    |refine di 5 _ aG rfl ?_
    |refine di 6 _ aG rfl ?_
    |refine di 7 _ aG rfl ?_
    |refine di 8 _ aG rfl ?_
    |refine jy 1 4 _ _ aG rfl rfl ?_ ?_
    |refine jy 1 5 _ _ aG rfl rfl ?_ ?_
    |refine di 1 _ aG rfl ?_
    |refine jy 0 4 _ _ aG rfl rfl ?_ ?_
    |refine jy 0 5 _ _ aG rfl rfl ?_ ?_
    |refine di 0 _ aG rfl ?_
    |(refine ub 0 rfl rfl rfl (gC l _) (.cons .ptr (.cons (.dH (.pure rfl)) .nil)) .ptr (aED l j J J) rfl (gC l _) (ez.pure _) ?_;refine iy ?_)
    |(refine cj rfl (.eU (d:=39) (news:=[aA (dpF l j)]) rfl rfl rfl rfl aE (.inl rfl) aj mg mg xu oT cs B42 (.inl ⟨38,0,_,rfl,by decide,rfl,rfl,by simp,rfl,by simp[aO,ez.pure]⟩) aQ aQ aj) ?_;refine iy ?_)
    |(refine bn ?_;refine iy ?_)
    |fail
  rintro _ ⟨LR6,-,rfl⟩;refine bc ?_;refine cO (au.kill _ 38) ?_;refine nL ?_;exact vU e (dpK l j) (o++[dpF l j]) ⟨aBO hl hj,by simp;omega,by rw[pn];exact hV,hK⟩
 obtain rfl:c=0:=J;rw[dqF,ey]at hV;rw[dqK]at hK;refine bG ?_;rw[<-hV,<-hK];refine⟨_,au.kill _ 9,?_⟩
 try refine aJ ?_
 rw[show cD l k n+1+xN l k m=o.length by omega];exact aKa rfl rfl rfl rfl (cU rfl rfl) fo rfl (gC l _) rfl hkp aj aj aj aE rfl (bm ez _)
end Go.Proofs.YtbkmfcmgilhaaaaGreat
end
