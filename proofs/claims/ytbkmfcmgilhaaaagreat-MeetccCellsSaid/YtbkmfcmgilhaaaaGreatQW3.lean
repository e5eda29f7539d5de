/- Texts LgY, LgR, LgG of this proof, joined. -/
import Derived.Test.YtbkmfcmgilhaaaaGreatQW2
import Derived.Laws.Cover3
set_option linter.unusedVariables false
set_option linter.unusedSimpArgs false
open And renaming intro->dI
open BitVec renaming ofInt->we,toNat_ofNat->acj,toNat_or->aoN
open Classical renaming byContradiction->rE
open Int renaming ediv_nonneg->aw9,fdiv_eq_ediv_of_nonneg->ans,natCast_dvd_natCast->apc,neg_mul->akm
open List renaming append_nil->ey,drop_eq_getElem_cons->xR,drop_of_length_le->mE,drop_zero->jv,foldl->tF,getD_eq_getElem?_getD->bq,getElem?_eq_getElem->ck,getElem?_eq_none->agE,getElem?_set_self->ayH,getLast_cons->atG,getLast_eq_getElem->as3,length_cons->dR,length_map->cC,length_nil->fX,length_set->lQ,length_take->fH,map->oC,map_nil->gy,map_take->va,mem_cons->dS,nil_append->fD,not_mem_nil->jR,range->cN,replicate->av,set->vg,set_cons_succ->du,set_cons_zero->dD,take_length->py,take_nil->gU,take_of_length_le->cy,take_succ_eq_append_getElem->adQ
open List.cons renaming injEq->iF
open Nat renaming add_comm->vQ,add_mul->iV,add_right_comm->anZ,add_sub_cancel->tD,add_zero->nW,beq->oV,beq_eq->uy,div_add_mod->aeW,div_eq_of_lt->acT,div_le_self->x6,div_lt_iff_lt_mul->pM,eq_zero_or_pos->aj6,gcd_comm->tf,gcd_dvd_left->acH,le_div_iff_mul_le->aaY,le_max_left->axY,le_max_right->apb,le_of_eq->afT,le_of_lt->ym,le_refl->bF,le_sub_one_of_lt->azf,le_trans->aP,lt_of_le_of_lt->wQ,lt_of_lt_of_le->zT,lt_of_mul_lt_mul_right->aBq,lt_trans->arP,min_eq_left->nM,mod_eq_of_lt->jU,mod_self->aBe,mul_add->fp,mul_add_div->aBl,mul_assoc->iD,mul_comm->ie,mul_le_mul->nP,mul_le_mul_left->l9,mul_le_mul_right->jd,mul_left_comm->aeZ,mul_lt_mul_of_pos_right->ant,mul_mod_mul_right->ayP,mul_pos->oR,mul_right_comm->aCK,mul_zero->abI,not_lt->ap1,one_mul->ahy,or_comm->avS,pos_of_ne_zero->xU,pow_add->nw,pow_le_pow_right->mN,pow_pos->ov,pow_succ->kC,reduceAdd->bp,reduceBEq->bh,reduceEqDiff->dC,reduceMul->bo,shiftLeft_add_eq_or_of_lt->an6,shiftLeft_eq->aot,strongRecOn->afc,zero_add->fZ
open Option renaming getD_some->acE
open Rat renaming div_def->gQ,mkRat_add_mkRat->aol,mkRat_self->ayI,neg_mkRat->asc,not_le->aBR,num_mkRat->aAF,num_nonneg->azJ
section
set_option linter.unusedVariables false
set_option linter.unusedSimpArgs false
namespace Go.Lg
def val:List Nat->Nat
 | []=>0
 |x::xs=>x+4294967296*val xs
def cE(l:List Nat):Prop:=∀x∈l,x<4294967296
def ac1:Nat->Nat->List Nat
 |0,_=>[]
 |k+1,n=>if n=0 then []else n%4294967296::ac1 k (n/4294967296)
def ak(n:Nat):List Nat:=ac1 n n
theorem akQ:∀k,ac1 k 0=[]
 |0=>rfl
 |k+1=>by simp[ac1]
theorem atn:∀(k j n:Nat),n<=k->n<=j->ac1 k n=ac1 j n
 |0,j,n,h,_=>by
   have:n=0:=J;subst this;rw[akQ,akQ]
 |k+1,0,n,_,h=>by
   have:n=0:=J;subst this;rw[akQ,akQ]
 |k+1,j+1,n,h1,h2=>by
   simp only[ac1];split
   ·rfl
   rw[atn k j (n/4294967296) J J]
theorem za:ak 0=[]:=rfl
theorem ac0{n:Nat}(h:0<n):ak n=n%4294967296::ak (n/4294967296):=by
 unfold ak;obtain⟨k,rfl⟩:∃k,n=k+1:=⟨n-1,J⟩;rw[ac1,if_neg J,atn k ((k+1)/4294967296) _ J (bF _)]
theorem cL(n:Nat):val (ak n)=n:=by
 induction n using afc with
 |_ n ih =>
  by_cases h:n=0
  ·subst h;rfl
  rw[ac0 J,val,ih (n/4294967296) J];omega
theorem dX(n:Nat):cE (ak n):=by
 induction n using afc with
 |_ n ih =>
  by_cases h:n=0
  ·subst h;intro x hx;cases hx
  rw[ac0 J];intro x hx;rcases dS.1 hx with rfl|hx
  ·omega
  exact ih _ J x hx
def Can(l:List Nat):Prop:=∀h:l≠[],l.getLast h≠0
theorem afz(n:Nat):Can (ak n):=by
 induction n using afc with
 |_ n ih =>
  by_cases h:n=0
  ·subst h;intro h;exact absurd rfl h
  rw[ac0 J];intro aZ;by_cases h2:n/4294967296=0
  ·have e:ak (n/4294967296)=[]:=by rw[h2];rfl
   simp only[e,List.getLast_singleton];omega
  have axl:ak (n/4294967296)≠[]:=by rw[ac0 J];simp
  rw[atG axl];exact ih _ J axl
theorem aCL{x:Nat}{xs:List Nat}(h:Can (x::xs)):Can xs:=fun aZ=>by
 have:=h (List.cons_ne_nil _ _);rwa[atG aZ]at this
theorem aAi:∀{l:List Nat},Can l->l≠[]->0<val l
 | [],_,h=>absurd rfl h
 | [x],h,_=>by have:=h aE;simp at this;simp[val];omega
 |x::y::l,h,_=>by
   have:=aAi (aCL h) aE;simp only[val]at this ⊢;omega
theorem azF:∀{l:List Nat},cE l->Can l->ak (val l)=l
 | [],_,_=>rfl
 |x::xs,h1,h2=>by
   have hp:=aAi h2 aE;have hx:=h1 x aE;have ih:=azF (l:=xs) (fun y hy=>h1 y (by simp[hy])) (aCL h2);rw[ac0 hp];have e1:val (x::xs)%4294967296=x:=by simp only[val];omega
   have e2:val (x::xs)/4294967296=val xs:=by simp only[val];omega
   rw[e1,e2,ih]
theorem aew:∀{l:List Nat},cE l->val l<4294967296^l.length
 | [],_=>by simp[val]
 |x::xs,h=>by
   have ih:=aew (l:=xs) (fun y hy=>h y (by simp[hy]));have hx:=h x aE;simp only[val,dR,kC];have:val xs+1<=4294967296^xs.length:=ih;have:=jd 4294967296 this;omega
theorem agx:∀(l m:List Nat),val (l++m)=val l+4294967296^l.length*val m
 | [],m=>by simp[val]
 |x::xs,m=>by
   simp only[List.cons_append,val,agx xs m,dR,kC];rw[fp,<-iD,ie 4294967296 (4294967296^xs.length)];omega
theorem al2:∀k,val (av k 0)=0
 |0=>rfl
 |k+1=>by simp[List.replicate_succ,val,al2 k]
theorem aai{n k:Nat}(h:n<4294967296^k):(ak n).length<=k:=by
 induction k generalizing n with
 |zero =>
      have:n=0:=mA;subst this;simp[za]
 |succ k ih =>
  by_cases h0:n=0
  ·subst h0;simp[za]
  rw[ac0 J,dR];have:=ih (n:=n/4294967296) (by rw[pM J];rwa[<-kC]);omega
theorem xq{n k:Nat}(h:(ak n).length<=k):n<4294967296^k:=by
 have h1:=aew (dX n);rw[cL]at h1;exact zT h1 (mN J h)
theorem auO{n k:Nat}:(ak n).length<=k↔n<4294967296^k:=⟨xq,aai⟩
theorem vh{n:Nat}:ak n=[]↔n=0:=by
 constructor
 ·intro h;have:=cL n;rw[h]at this;exact this.symm
 rintro rfl;rfl
theorem auz{l m:List Nat}(h1:cE l)(h2:cE m):cE (l++m):=fun x hx=>by
 rcases List.mem_append.1 hx with h|h
 ·exact h1 x h
 exact h2 x h
theorem aaf{l:List Nat}(h:cE l)(k:Nat):cE (l.take k):=fun x hx=>h x (List.mem_of_mem_take hx)
theorem aHo{l:List Nat}(h:cE l)(k:Nat):cE (l.drop k):=fun x hx=>h x (List.mem_of_mem_drop hx)
theorem yL(k:Nat):cE (av k 0):=fun x hx=>by rw[(List.mem_replicate.1 hx).2];omega
theorem aN9{l:List Nat}(h:cE l)(k:Nat):l.getD k 0<4294967296:=by
 rw[bq]
 cases hq:l[k]? with
 |none=>simp
 |some x=>simpa using h x (List.mem_of_getElem? hq)
theorem ayv{l:List Nat}{k:Nat}(h:k<l.length):val (l.take (k+1))=val (l.take k)+4294967296^k*l.getD k 0:=by
 rw[adQ h,agx,fH,nM J,bq,ck h];simp[val]
def kG:Nat->List Nat->Nat
 |0,_=>0
 |n+1,l=>if l.getD n 0=0 then kG n l else n+1
theorem an9:∀(n:Nat) (l:List Nat),kG n l<=n
 |0,_=>by simp[kG]
 |n+1,l=>by simp only[kG];split;have:=an9 n l;omega;omega
theorem alf:∀(n:Nat) (l:List Nat),n<=l.length->Can (l.take (kG n l))/\val (l.take (kG n l))=val (l.take n)
 |0,l,_=>by simp[kG,Can]
 |n+1,l,h=>by
   simp only[kG];split
   ·rename_i h0;have ih:=alf n l J;refine⟨ih.1,ih.2.trans ?_⟩;rw[ayv J,h0];simp
   rename_i h0;refine⟨fun aZ=>?_,rfl⟩;rw[as3];simp only[fH,nM h,tD,List.getElem_take];rw[bq,ck J]at h0;exact h0
def aap(l:List Nat):List Nat:=l.take (kG l.length l)
theorem yt{l:List Nat}(h:cE l):aap l=ak (val l):=by
 have:=alf l.length l (bF _);rw[py]at this;rw[<-this.2];exact(azF (aaf h _) this.1).symm
def bR(n:Nat):LV:=.v (.int .u32 n)
def eE(n:Int):LV:=.v (.int .i64 n)
theorem iE:jF bR 1 false:=⟨fun _=>rfl,fun _=>rfl,fun _=>rfl⟩
theorem jH:jF eE 1 false:=⟨fun _=>rfl,fun _=>rfl,fun _=>rfl⟩
def fS(l:List Nat):LV:=.list 1 (l.map bR)
def bu(n:Nat):LV:=.list 1 ((ak n).map bR)
theorem mq(n:Nat):(bu n).pure=true:=by simp only[bu,LV.pure];exact bm iE _
def jX(q:Rat):Nat:=if q.den=1 then 0 else q.den
@[irreducible] def ae (q:Rat):LV:=.agg [.v (.bool (decide (q<0))),bu q.num.natAbs,bu (jX q)]
theorem yV(q:Rat):ae q=.agg [.v (.bool (decide (q<0))),bu q.num.natAbs,bu (jX q)]:=by unfold ae;rfl
theorem ao:jF ae 3 true:=by
 refine⟨fun q=>?_,fun q=>?_,fun q=>?_⟩
 ·rw[yV];rfl
 ·rw[yV];rfl
 rw[yV];simp[LV.pure,aO,mq]
theorem aEK(q:Rat):(ae q).at 0 1 false=some (.v (.bool (decide (q<0)))):=by rw[yV];rfl
theorem aKp(q:Rat):(ae q).at 1 1 false=some (bu q.num.natAbs):=by rw[yV];rfl
theorem aK1(q:Rat):(ae q).at 2 1 false=some (bu (jX q)):=by rw[yV];rfl
theorem rn(q:Rat):(ae q).at 0 3 true=some (ae q):=by
 have:=aoP (ae q) (ao.pure q);rwa[ao.aq,ao.isAgg]at this
theorem kZ:ae 0=.agg [.v (.bool false),.list 1 [],.list 1 []]:=by rw[yV];rfl
@[irreducible] def ar (s:Rat×Rat):LV:=.agg [ae s.1,ae s.2]
theorem zQ(s:Rat×Rat):ar s=.agg [ae s.1,ae s.2]:=by unfold ar;rfl
theorem bj:jF ar 6 true:=by
 refine⟨fun s=>?_,fun s=>?_,fun s=>?_⟩<;>rw[zQ]<;>simp[LV.aq,dg,LV.isAgg,LV.pure,aO,ao.aq,ao.pure]
theorem aca(s:Rat×Rat):(ar s).at 0 6 true=some (ar s):=by
 have:=aoP (ar s) (bj.pure s);rwa[bj.aq,bj.isAgg]at this
theorem aua(s:Rat×Rat):(ar s).at 0 3 true=some (ae s.1):=by
 rw[zQ];simp[LV.at,wT,dg,ao.aq,rn]
theorem ay5(s:Rat×Rat):(ar s).at 3 3 true=some (ae s.2):=by
 rw[zQ];simp[LV.at,wT,dg,ao.aq,rn]
theorem kT(q:Rat)(b:Nat):(ae q).kill b=ae q:=LV.oH b _ (ao.pure q)
theorem dO{α:Type}{e:α->LV}{sz:Nat}{ag:Bool}(h:jF e sz ag)(b:Nat)(l:List α):bC b (l.map e)=l.map e:=adI b _ (bm h l)
theorem qV(q:Rat×Rat)(b:Nat):(ar q).kill b=ar q:=LV.oH b _ (bj.pure q)
section
variable {Z:Nat->Prop} {μ:Nat->Option Nat} {w:World}
theorem aHv{x:Value}(h:x.oneCell'=true):aH Z μ w (.v x) [x]:=by simp only[aH];exact⟨trivial,h⟩
theorem adr(sz:Nat):aH Z μ w (.list sz []) [.slice none 0 0]:=by simp only[aH];exact⟨none,0,0,rfl,rfl,bF _,.inl trivial,rfl⟩
theorem aN4{l:List LV}{cs:List Value}(h:cP Z μ w l cs):aH Z μ w (.agg l) cs:=by simp only[aH];exact h
theorem aGx:cP Z μ w [] []:=by simp only[cP]
theorem aIw{x:LV}{xs:List LV}{c1 c2:List Value}(h1:c1.length=x.aq)(h2:aH Z μ w x c1)(h3:cP Z μ w xs c2):cP Z μ w (x::xs) (c1++c2):=by
 simp only[cP];exact⟨c1,c2,rfl,h1,h2,h3⟩
end
end Go.Lg
namespace Go.Lg
abbrev dF(n:Nat):LV:=.v (.int .u64 ((n:Nat):Int))
abbrev sY(n:Nat):LV:=.v (.int .u32 ((n:Nat):Int))
abbrev ah(n:Nat):LV:=.v (.int .i64 ((n:Nat):Int))
abbrev bL(b:Bool):LV:=.v (.bool b)
abbrev iL(n:Int):LV:=.v (.int .i64 n)
section
variable {a b:Nat}
theorem awY(h:a+b<18446744073709551616):eO .add .u64 (a:Nat) (b:Nat)=some (.int .u64 ((a+b:Nat):Int)):=by
 simp only[eO];rw[IntWalk.u64_in _ J];simp
theorem aeT(h:a*b<18446744073709551616):eO .mul .u64 (a:Nat) (b:Nat)=some (.int .u64 ((a*b:Nat):Int)):=by
 simp only[eO];have e:((a:Int)*(b:Int))=((a*b:Nat):Int):=aE;rw[e,IntWalk.u64_in _ J]
theorem axD(h:b<=a)(h1:a<18446744073709551616):eO .sub .u64 (a:Nat) (b:Nat)=some (.int .u64 ((a-b:Nat):Int)):=by
 simp only[eO];rw[IntWalk.u64_in _ J];congr 2;omega
theorem ag9(h:b<=18446744073709551616):eO .sub .u64 (a:Nat) (b:Nat)=some (.int .u64 (((18446744073709551616+a-b)%18446744073709551616:Nat):Int)):=by
 simp only[eO];rw[IntKind.wrap_u64];congr 2;omega
theorem ap5(h:0<b)(h1:a<18446744073709551616):eO .quo .u64 (a:Nat) (b:Nat)=some (.int .u64 ((a/b:Nat):Int)):=by
 have e:((a:Int).tdiv (b:Int))=((a/b:Nat):Int):=aE;have h2:a/b<=a:=x6 a b;simp only[eO];rw[if_neg J,e,IntWalk.u64_in _ ⟨Int.natCast_nonneg _,J⟩]
theorem ao1(h:0<b):eO .rem .u64 (a:Nat) (b:Nat)=some (.int .u64 ((a%b:Nat):Int)):=by
 simp only[eO];rw[if_neg J];congr 2
theorem ag6(h:a*4294967296<18446744073709551616):rN .shl .u64 (a:Nat) 32=some (.int .u64 ((a*4294967296:Nat):Int)):=by
 have e:(2:Int)^min (32:Int).toNat IntKind.u64.bits=4294967296:=aj;simp only[rN];rw[if_neg J,e,IntWalk.u64_in _ J];simp
theorem aOo:rN .shr .u64 (a:Nat) 32=some (.int .u64 ((a/4294967296:Nat):Int)):=by
 have e:(2:Int)^min (32:Int).toNat IntKind.u64.bits=4294967296:=aj;simp only[rN];rw[if_neg J,e,ans _ J];congr 2
theorem aL2:rN .shr .u64 (a:Nat) 63=some (.int .u64 ((a/9223372036854775808:Nat):Int)):=by
 have e:(2:Int)^min (63:Int).toNat IntKind.u64.bits=9223372036854775808:=aj;simp only[rN];rw[if_neg J,e,ans _ J];congr 2
theorem acs(n w:Nat):(we w (n:Int))=BitVec.ofNat w n:=aE
theorem orU{x:Nat}(hb:b<4294967296)(hx:x<4294967296):eO .or .u64 ((x*4294967296:Nat):Int) (b:Nat)=some (.int .u64 ((x*4294967296+b:Nat):Int)):=by
 have e:(we IntKind.u64.bits ((x*4294967296:Nat):Int) ||| we IntKind.u64.bits (b:Int)).toNat=x*4294967296+b:=by
  rw[acs,acs,aoN,acj,acj];have e1:x*4294967296%2^IntKind.u64.bits=x*4294967296:=jU (by show _<18446744073709551616;omega);have e2:b%2^IntKind.u64.bits=b:=jU (by show _<18446744073709551616;omega);rw[e1,e2];have:=an6 (i:=32) (b:=b) (by simpa using hb) x;rw[aot]at this;exact this.symm
 simp only[eO,e];rw[IntWalk.u64_in _ J]
theorem wrap32:IntKind.u32.wrap (a:Nat)=((a%4294967296:Nat):Int):=by rw[IntKind.wrap_u32];omega
theorem wrap64(h:a<18446744073709551616):IntKind.u64.wrap (a:Nat)=(a:Int):=IntWalk.u64_in _ J
theorem x9{x y:Nat}(hx:x<4294967296)(hy:y<4294967296):x*y<=18446744065119617025:=by
 have:=nP (azf hx) (azf hy);simpa using this
end
section
variable {P:Program} {H:cd} {ρ:Operand->LV} {S D:TypeId} {x:Operand} {n:Nat} {k':IntKind}
theorem aM.aDA{α:Type}{e:α->LV}{sz:Nat}{l:List α}{T:TypeId}{d:TypeId}{as:Array TypeId}(hx:ρ x=.list sz (l.map e))(has:as=#[T])(hT:P.underlying T=some (.slice d)):
  aM P H ρ (.call ⟨.builtin .len,#[x],as⟩) (ah l.length):=by
 have:=aM.abC (H:=H) hx has hT;rwa[cC]at this
theorem aM.aDs{d:TypeDesc}(hS:P.underlying S=some d)(hD:P.underlying D=some (.int .u32))(hx:ρ x=.v (.int k' (n:Nat))):aM P H ρ (.convert S D x) (sY (n%4294967296)):=by
 have:=aM.conv (H:=H) hS hD hx
 rwa[wrap32]at this
theorem aM.alK{d:TypeDesc}(hS:P.underlying S=some d)(hD:P.underlying D=some (.int .u64))(hx:ρ x=.v (.int k' (n:Nat)))(h:n<18446744073709551616):aM P H ρ (.convert S D x) (dF n):=by
 have:=aM.conv (H:=H) hS hD hx
 rwa[wrap64 h]at this
theorem aM.cvI{d:TypeDesc}{m:Int}(hS:P.underlying S=some d)(hD:P.underlying D=some (.int .i64))(hx:ρ x=.v (.int k' m))(h1:-9223372036854775808<=m)(h2:m<=9223372036854775807):aM P H ρ (.convert S D x) (iL m):=by
 have:=aM.conv (H:=H) hS hD hx
 rwa[IntWalk.i64_in _ ⟨h1,h2⟩]at this
end
section
variable {P:Program} {Q:lR->St->Prop} {L L0:St} {K:St->Prop} {dr:Bool} {ops:Array Oper} {l:List Oper}
theorem aOl{d:Nat}{b:Bool}(h:L.slot d=.v (.bool b))(ht:b=true->opsL P dr ops l L K)(hf:b=false->opsL P dr ops l L K):opsL P dr ops l L K:=by
 cases b with
 |true=>exact ht rfl
 |false=>exact hf rfl
theorem qO{c:Operand}{x y:Code}{b:Bool}(hc:L.ev c=.v (.bool b))(hb:b=true)(h:c9 P x Q L):c9 P (.cond c x y) Q L:=aoj hc (fun _=>h) (fun e=>by rw[hb]at e;cases e)
theorem rA{c:Operand}{x y:Code}{b:Bool}(hc:L.ev c=.v (.bool b))(hb:b=false)(h:c9 P y Q L):c9 P (.cond c x y) Q L:=aoj hc (fun e=>by rw[hb]at e;cases e) (fun _=>h)
end
theorem au.own{L:St}{t:Nat}(d sz:Nat)(h:L.slot t=.v (.slice none 0 0))(hd:L.heap d=none):au L ((L.bO d (some ⟨sz,[],true⟩)).put (some t) (.ref d sz 0 0)):=by
 rintro n W X Z0 a w ⟨fA,bU,μ,Z,hc,hr⟩;refine⟨fA,bU,μ,Z,?_,fun s=>?_⟩
 ·rw[kH];refine hc.apJ fun c id yi=>?_;have:c≠d:=by rintro rfl;rw[xb hc hd]at yi;cases yi
  simp[St.bO,this]
 rw[iU];split
 ·rename_i ef;subst ef;have e:=hr s;rw[h]at e;rw[e.iO];exact⟨by simp[LV.isAgg],fun _=>by simp[aH]⟩
 exact hr s
theorem au.any(L:St)(t:Nat):au L (L.put (some t) .any):=by
 rintro n W X Z0 a w ⟨fA,bU,μ,Z,hc,hr⟩;refine⟨fA,bU,μ,Z,by rw[kH];exact hc,fun s=>?_⟩;rw[iU];split
 ·trivial
 exact hr s
def hp:List (Nat×aV)->cd
 | [],_=>none
 |(b,x)::l,c=>bif oV c b then some x else hp l c
def ins(b:Nat)(x:aV):List (Nat×aV)->List (Nat×aV)
 | []=>[(b,x)]
 |(c,y)::l=>bif oV c b then(b,x)::l else(c,y)::ins b x l
def rj(b:Nat):List (Nat×aV)->List (Nat×aV)
 | []=>[]
 |(c,y)::l=>bif oV c b then rj b l else(c,⟨y.sz,bC b y.vals,y.mt⟩)::rj b l
def aaI(bs:List Nat):List (Nat×aV)->List (Nat×aV)
 | []=>[]
 |(c,y)::l=>(c,⟨y.sz,y.vals,y.mt&&!bs.contains c⟩)::aaI bs l
theorem beq_eq{a b:Nat}(h:oV a b=true):a=b:=Nat.eq_of_beq_eq_true h
theorem x8(a:Nat):oV a a=true:=by rw[uy]
theorem ss{a b:Nat}(h:a≠b):oV a b=false:=by rw[<-Bool.not_eq_true,uy];exact h
theorem axX(b:Nat)(x:aV):∀(l:List (Nat×aV)) (c:Nat),hp (ins b x l) c=if c=b then some x else hp l c
 | [],c=>by
   simp only[ins,hp];by_cases h:c=b
   ·subst h;rw[x8];simp
   rw[ss h,if_neg h];rfl
 |(d,y)::l,c=>by
   simp only[ins];by_cases tH:d=b
   ·subst tH;rw[x8];simp only[cond_true,hp];by_cases h:c=d
    ·subst h;rw[x8];simp
    rw[ss h,if_neg h];rfl
   rw[ss tH];simp only[cond_false,hp,axX b x l c];by_cases h:c=d
   ·subst h;rw[x8];simp[tH]
   rw[ss h];rfl
theorem aiX(b:Nat):∀(l:List (Nat×aV)) (c:Nat),hp (rj b l) c=if c=b then none else(hp l c).map fun blk=>⟨blk.sz,bC b blk.vals,blk.mt⟩
 | [],c=>by simp[rj,hp]
 |(d,y)::l,c=>by
   simp only[rj];by_cases tH:d=b
   ·subst tH;rw[x8];simp only[cond_true,aiX d l c,hp];by_cases h:c=d
    ·rw[if_pos h,if_pos h]
    rw[if_neg h,if_neg h,ss h];rfl
   rw[ss tH];simp only[cond_false,hp,aiX b l c];by_cases h:c=d
   ·subst h;rw[x8];simp[tH]
   rw[ss h];rfl
theorem aCC(bs:List Nat):∀(l:List (Nat×aV)) (c:Nat),hp (aaI bs l) c=(hp l c).map fun blk=>⟨blk.sz,blk.vals,blk.mt&&!bs.contains c⟩
 | [],c=>rfl
 |(d,y)::l,c=>by
   simp only[aaI,hp,aCC bs l c];by_cases h:c=d
   ·subst h;rw[x8];rfl
   rw[ss h];rfl
theorem b1(s:Nat->LV)(l:List (Nat×aV))(b:Nat)(x:aV):(St.mk s (hp l)).bO b (some x)=St.mk s (hp (ins b x l)):=by
 simp only[St.bO,St.mk.injEq,true_and];funext c;rw[axX]
theorem b2(L:St)(t:Nat)(r:LV)(b:Nat)(x:Option aV):(L.put (some t) r).bO b x=(L.bO b x).put (some t) r:=rfl
theorem b3(s:Nat->LV)(l:List (Nat×aV))(b:Nat):(St.mk s (hp l)).kill b=St.mk (fun t=>(s t).kill b) (hp (rj b l)):=by
 simp only[St.kill,St.mk.injEq,true_and];funext c;rw[aiX]
theorem b4(L:St)(t:Nat)(r:LV)(b:Nat):(L.put (some t) r).kill b=(L.kill b).put (some t) (r.kill b):=by
 simp only[St.kill,St.put,St.mk.injEq,and_true];funext s
 cases oV s t<;>rfl
theorem b5(s:Nat->LV)(l:List (Nat×aV))(bs:List Nat):(St.mk s (hp l)).b9 bs=St.mk s (hp (aaI bs l)):=by
 simp only[St.b9,St.mk.injEq,true_and];funext c;rw[aCC]
theorem b6(L:St)(t:Nat)(r:LV)(bs:List Nat):(L.put (some t) r).b9 bs=(L.b9 bs).put (some t) r:=rfl
theorem i1(b:Nat)(x:aV):ins b x []=[(b,x)]:=rfl
theorem i2(b c:Nat)(x y:aV)(l:List (Nat×aV))(h:(c==b)=true):ins b x ((c,y)::l)=(b,x)::l:=by
 simp only[beq_iff_eq]at h;simp only[ins,h,x8,cond_true]
theorem i3(b c:Nat)(x y:aV)(l:List (Nat×aV))(h:(c==b)=false):ins b x ((c,y)::l)=(c,y)::ins b x l:=by
 have h':c≠b:=mA;simp only[ins,ss h',cond_false]
theorem i4(b:Nat):rj b []=[]:=rfl
theorem i5(b c:Nat)(y:aV)(l:List (Nat×aV))(h:(c==b)=true):rj b ((c,y)::l)=rj b l:=by
 simp only[beq_iff_eq]at h;simp only[rj,h,x8,cond_true]
theorem i6(b c:Nat)(y:aV)(l:List (Nat×aV))(h:(c==b)=false):rj b ((c,y)::l)=(c,⟨y.sz,bC b y.vals,y.mt⟩)::rj b l:=by
 have h':c≠b:=mA;simp only[rj,ss h',cond_false]
theorem jB{L:St}{l:List (Nat×aV)}(h:L.heap=hp l):St.mk L.slot (hp l)=L:=by rw[<-h]
def wo(b:Nat):List (Nat×aV)->List (Nat×aV)
 | []=>[]
 |(c,y)::l=>bif oV c b then wo b l else(c,y)::wo b l
theorem aqE(b:Nat):∀(l:List (Nat×aV)) (c:Nat),hp (wo b l) c=if c=b then none else hp l c
 | [],c=>by simp[wo,hp]
 |(d,y)::l,c=>by
   simp only[wo];by_cases tH:d=b
   ·subst tH;rw[x8];simp only[cond_true,aqE d l c,hp];by_cases h:c=d
    ·rw[if_pos h,if_pos h]
    rw[if_neg h,if_neg h,ss h];rfl
   rw[ss tH];simp only[cond_false,hp,aqE b l c];by_cases h:c=d
   ·subst h;rw[x8];simp[tH]
   rw[ss h];rfl
theorem bh7(s:Nat->LV)(l:List (Nat×aV))(b:Nat):(St.mk s (hp l)).bO b none=St.mk s (hp (wo b l)):=by
 show St.mk s _=_;congr 1;funext c;exact(aqE b l c).symm
theorem dh1(b:Nat):wo b []=[]:=rfl
theorem dh2(b c:Nat)(y:aV)(l:List (Nat×aV))(h:(c==b)=true):wo b ((c,y)::l)=wo b l:=by
 have:c=b:=mA;subst this;simp only[wo,x8,cond_true]
theorem dh3(b c:Nat)(y:aV)(l:List (Nat×aV))(h:(c==b)=false):wo b ((c,y)::l)=(c,y)::wo b l:=by
 have:c≠b:=mA;simp only[wo,ss this,cond_false]
def an(P:Program)(f:FuncId)(args:List LV)(r:LV):Prop:=mW P f args r []/\∀g,r.b8 g=r
section
variable {P:Program} {dr:Bool} {ops:Array Oper} {rest:List Oper} {L:St} {K:St->Prop} {dst:Option Tmp} {ty:TypeId} {pos:String} {af:Array Edge} {g:Option (Nat×Bool)}
theorem dN{f:FuncId}{xs:Array Operand}{as:Array TypeId}{args:List LV}{r:LV}(hg:eg ops L ⟨dst,.call ⟨.value (.func f),xs,as⟩,ty,pos,af,g⟩ true)
  (ha:gR L.heap (xs.toList.map L.ev) args) (hk:an P f args r) (k:opsL P dr ops rest (L.put dst r) K) :
  opsL P dr ops (⟨dst,.call ⟨.value (.func f),xs,as⟩,ty,pos,af,g⟩::rest) L K:=aFV hg ha hk.1 (hk.2 _) k
theorem aPk{f:FuncId}{x:Operand}{as:Array TypeId}{a b:LV}{j sz off len:Nat}{r:LV}(hg:eg ops L ⟨dst,.call ⟨.value (.func f),#[x],as⟩,ty,pos,af,g⟩ true)(hx:L.ev x=.agg [a,b,.ref j sz off len])(ha:a.pure=true)(hb:b.pure=true)
  (hk:an P f [.agg [a,b,.any]] r) (k:opsL P dr ops rest (L.put dst r) K):opsL P dr ops (⟨dst,.call ⟨.value (.func f),#[x],as⟩,ty,pos,af,g⟩::rest) L K:=by
 have ho:nB P L.heap L.ev (dst.getD 0) (.call ⟨.value (.func f),#[x],as⟩) (r.b8 (dv (dst.getD 0))) []:=nB.call (op:=.call ⟨.value (.func f),#[x],as⟩) (OpC.acP (d:=dst.getD 0) hx ha hb hk.1 aE aE);rw[hk.2]at ho;exact⟨L.put dst r,.val hg (cd.le_refl _) (fun b bk hb=>by simp at hb) ho (by cases dst<;>rfl),k⟩
theorem afr{f:FuncId}{xs:Array Operand}{as:Array TypeId}{args:List LV}{r:LV}(bs:List Nat)(hg:eg ops L ⟨dst,.call ⟨.value (.func f),xs,as⟩,ty,pos,af,g⟩ true)(h0:bs.contains 0=false)
  (ha:gR (L.b9 bs).heap (xs.toList.map L.ev) args) (hk:an P f args r) (k:opsL P dr ops rest ((L.b9 bs).put dst r) K) :
  opsL P dr ops (⟨dst,.call ⟨.value (.func f),xs,as⟩,ty,pos,af,g⟩::rest) L K:=ayl bs hg h0 ha hk.1 (hk.2 _) k
theorem aOt{f:FuncId}{fn:Func}{c:Code}{args:List LV}{r:LV}(jK:P.follows .mixedOrders=true)(hf:P.funcs[f]?=some fn)(hb:fn.body=some c)
  (hn:(fn.name== "runtime.NumGoroutine")=false) (hd:mQ fn.ntmps c=true) (hlen:args.length<=fn.ntmps) (ht:∀g,r.b8 g=r)
  (h:c9 P c (fun e L=>match e with | .exit _=>False|_=>pB P fn.results.toList L r []) (St.mk (fun t=>args.getD t .any) (hp []))):an P f args r:=⟨aDf jK hf hb hn hd hlen h,ht⟩
end
theorem aHz{P:Program}{f:FuncId}{fn:Func}{c:Code}{args:List LV}{r:LV}{bs:List aV}(jK:P.follows .mixedOrders=true)(hf:P.funcs[f]?=some fn)(hb:fn.body=some c)
  (hn:(fn.name== "runtime.NumGoroutine")=false) (hd:mQ fn.ntmps c=true) (hlen:args.length<=fn.ntmps)
  (h:c9 P c (fun e L=>match e with | .exit _=>False|_=>pB P fn.results.toList L r bs) (St.mk (fun t=>args.getD t .any) (hp []))):mW P f args r bs:=aDf jK hf hb hn hd hlen h
theorem aGo{P:Program}{f:FuncId}{fn:Func}{c:Code}{args:List LV}{r:LV}{blk blk':aV}(jK:P.follows .mixedOrders=true)(hf:P.funcs[f]?=some fn)(hb:fn.body=some c)
  (hn:(fn.name== "runtime.NumGoroutine")=false) (hd:mQ fn.ntmps c=true) (hlen:args.length<=fn.ntmps) (gX:blk.mt=true)
  (h:c9 P c (fun e L=>match e with | .exit _=>False|_=>abL P fn.results.toList L r blk') (St.mk (fun t=>args.getD t .any) (hp [(0,blk)]))):pe P f blk args r blk':=by
 refine aK6 jK hf hb hn hd hlen gX ?_;have:StM args blk=St.mk (fun t=>args.getD t .any) (hp [(0,blk)]):=by
  simp only[StM,St.mk.injEq,true_and];funext c;simp only[hp];by_cases hc:c=0
  ·subst hc;rfl
  rw[ss hc,if_neg hc];rfl
 rw[this];exact h
theorem aeY{x:LV}(h:x.pure=true):∀g,x.b8 g=x:=fun g=>LV.db g x h
theorem iz{x y:LV}(h:x.pure=true)(h':y.pure=true):∀g,(LV.aY [x,y]).b8 g=.aY [x,y]:=fun g=>by
 simp only[LV.b8,dL,LV.db g x h,LV.db g y h']
theorem ahv{x y z:LV}(h:x.pure=true)(h':y.pure=true)(h'':z.pure=true):∀g,(LV.aY [x,y,z]).b8 g=.aY [x,y,z]:=fun g=>by
 simp only[LV.b8,dL,LV.db g x h,LV.db g y h',LV.db g z h'']
theorem abd(l:List Nat):(fS l).pure=true:=eY iE 1 l
theorem t1(n:Nat):((n:Nat):Int).toNat=n:=rfl
theorem aCd{L:St}{α:Type}{e:α->LV}{ag:Bool}{bs:List Nat}{b sz len:Nat}{l:List α}{m:Bool}(he:jF e sz ag)(hb:L.heap b=some ⟨sz,l.map e,m⟩)(uj:bs.contains b=true)(hl:len<=l.length):
  dt (L.b9 bs).heap (.ref b sz 0 len) (.list sz ((l.take len).map e)):=by
 have:=abG (L:=L) (bs:=bs) (off:=0) (len:=len) hb uj (bm he l) (by simp[hl]);rwa[jv,<-va]at this
theorem yD{P:Program}{L:St}{t:Nat}{x y:LV}{blk:aV}(h:L.slot t=x)(hi:zD L.heap 0 x y)(hb:L.heap 0=some blk)(hm:blk.mt=true)(hp:aO blk.vals=true):abL P [.tmp t] L y blk :=
 ⟨[x],[y],L.heap,.cons h .nil,cd.le_refl _,.cons hi .nil,hb,hm,hp,rfl⟩
theorem aJK{P:Program}{L:St}{blk:aV}(hb:L.heap 0=some blk)(hm:blk.mt=true)(hp:aO blk.vals=true):abL P [] L (.aY []) blk :=
 ⟨[],[],L.heap,.nil,cd.le_refl _,.nil,hb,hm,hp,rfl⟩
theorem r1(f:Nat->Nat)(b sz off len:Nat):(LV.ref b sz off len).b8 f=.ref (f b) sz off len:=rfl
theorem r2(f:Nat->Nat)(b sz i o:Nat):(LV.aB b sz i o).b8 f=.aB (f b) sz i o:=rfl
theorem r3(f:Nat->Nat)(x:Value):(LV.v x).b8 f=.v x:=rfl
theorem r4(d k:Nat):dv d k=1000000+d*16+k:=rfl
section
variable {P:Program} {H:cd} {ρ:Operand->LV} {T E:TypeId} {x z:Operand} {b sz off len h:Nat} {k':IntKind} {ag:Bool}
theorem aM.ahJ(hx:ρ x=.ref b sz off len)(hT:P.underlying T=some (.slice E))(hE:bS P E sz ag)(jf:ρ z=.v (.int k' (h:Nat)))(h2:h<=len)(h0:0<len):
  aM P H ρ (.slice T x none (some z) none) (.ref b sz off h):=by
 have:=aM.zg (P:=P) (H:=H) (ρ:=ρ) (la:=none) (ha:=some z) (a:=0) (h:=h) hx hT hE (fun w hw=>by cases hw) (fun _=>rfl) (fun w hw=>by cases hw;exact⟨_,jf⟩) (fun h=>by cases h) J h2 h0;simpa using this
end
end Go.Lg
namespace Go.Lg
theorem ik:(default:Nat)=0:=rfl
theorem rY(l:List Nat)(k:Nat):val (l.take (k+1))=val (l.take k)+4294967296^k*l.getD k 0:=by
 by_cases h:k<l.length
 ·exact ayv h
 have h1:l.take (k+1)=l:=cy J;have h2:l.take k=l:=cy J;have h3:l.getD k 0=0:=by rw[bq,agE J];rfl
 rw[h1,h2,h3];simp
theorem afo(l:List Nat){k:Nat}(h:l.length<=k):val (l.take k)=val l:=by rw[cy h]
theorem aL3(l:List Nat)(k j x:Nat)(h:k<=j):(l.set j x).take k=l.take k:=by rw[List.take_set_of_le h]
theorem ac5(l:List Nat)(k x:Nat)(h:k<l.length):val ((l.set k x).take (k+1))=val (l.take k)+4294967296^k*x:=by
 rw[rY,aL3 _ _ _ _ (bF k),bq,ayH h];rfl
theorem ox{l:List Nat}(h:cE l)(k x:Nat)(hx:x<4294967296):cE (l.set k x):=fun y hy=>by
 rcases List.mem_or_eq_of_mem_set hy with hy|rfl
 ·exact h y hy
 exact hx
theorem kj{l:List Nat}(h:cE l)(k:Nat):l.getD k 0<4294967296:=aN9 h k
theorem awL(l:List Nat)(k x:Nat)(h:k<l.length):(l.set k x).getD k 0=x:=by
 rw[bq,ayH h];rfl
theorem getD_set_ne(l:List Nat)(k j x:Nat)(h:k≠j):(l.set k x).getD j 0=l.getD j 0:=by
 rw[bq,bq,List.getElem?_set_ne h]
theorem xC(l:List Nat)(k:Nat)(h:l.length<=k):l.getD k 0=0:=by
 rw[bq,agE h];rfl
theorem aeg(p s:Nat):p*(s%4294967296)+p*4294967296*(s/4294967296)=p*s:=by
 rw[iD,<-fp,Nat.mod_add_div]
theorem jN(n k:Nat):(ak n).getD k 0<4294967296:=kj (dX n) k
theorem qH{m n:Nat}(h:m<=n):(ak m).length<=(ak n).length:=by
 apply aai;have:=aew (dX n);rw[cL]at this;omega
theorem wI{l:List Nat}(h:cE l){k:Nat}(hk:l.length<=k):val l<4294967296^k :=
 zT (aew h) (mN J hk)
theorem alv:ak 1=[1]:=rfl
theorem adU{n:Nat}(h0:0<n)(h:n<4294967296):ak n=[n]:=by
 rw[ac0 h0,jU h,acT h];rfl
theorem wJ{n:Nat}:(ak n).length<=1↔n<4294967296:=auO
theorem abM{n:Nat}:(ak n).length<=2↔n<18446744073709551616:=by
 rw[auO]
theorem val_two(x y:Nat):val [x,y]=x+4294967296*y:=by simp[val]
theorem afI{l:List Nat}(h:Can l)(aZ:0<l.length):l.getD (l.length-1) 0≠0:=by
 have h1:l≠[]:=by rintro rfl;simp at aZ
 have:=h h1;rw[as3]at this;rw[bq,ck J];exact this
end Go.Lg
namespace Go.Lg
theorem rH{l:List Nat}{k:Nat}(h:k<l.length):val (l.drop k)=l.getD k 0+4294967296*val (l.drop (k+1)):=by
 rw[xR h,val,bq,ck h];rfl
theorem axG{l:List Nat}{k x:Nat}(h:k<l.length):val ((l.set k x).drop k)=x+4294967296*val (l.drop (k+1)):=by
 rw[rH mA,awL _ _ _ h,List.drop_set_of_lt J]
theorem asP{l:List Nat}(h:cE l){k j:Nat}(hk:l.length<=k+j):val (l.drop k)<4294967296^j :=
 wI (aHo h k) aQ
theorem afZ{l:List Nat}{k x:Nat}(h:k<l.length):val (l.set k x)+4294967296^k*l.getD k 0=val l+4294967296^k*x:=by
 induction l generalizing k with
 |nil=>simp at h
 |cons a l ih =>
  cases k with
  |zero=>simp[val];omega
  |succ k =>
   have:=ih (k:=k) mA;simp only[du,val,List.getD_cons_succ,kC];have e1:4294967296^k*4294967296*l.getD k 0=4294967296*(4294967296^k*l.getD k 0):=by rw[ie (4294967296^k),iD]
   have e2:4294967296^k*4294967296*x=4294967296*(4294967296^k*x):=by rw[ie (4294967296^k),iD]
   rw[e1,e2];omega
theorem wh(l:List Nat)(k:Nat)(h:k<=l.length):val l=val (l.take k)+4294967296^k*val (l.drop k):=by
 have:=agx (l.take k) (l.drop k);rwa[List.take_append_drop,fH,nM h]at this
def l8(m n:Nat):Int:=if m<n then -1 else if n<m then 1 else 0
theorem tk{m n:Nat}(h:m<n):l8 m n=-1:=by simp[l8,h]
theorem vN{m n:Nat}(h:n<m):l8 m n=1:=by simp[l8,h];omega
theorem xa{m n:Nat}(h:m=n):l8 m n=0:=by simp[l8,h]
theorem ajq{m n:Nat}(h:(ak m).length<(ak n).length):m<n:=by
 have h1:=aew (dX m);rw[cL]at h1;apply rE;intro h2;have:=qH (Nat.le_of_not_lt h2);omega
theorem alC{a b:List Nat}(ha:cE a){k:Nat}(hk:k<a.length)(qD:k<b.length)(hd:a.drop (k+1)=b.drop (k+1))(h:a.getD k 0<b.getD k 0):val a<val b:=by
 rw[wh a k J,wh b k J,rH hk,rH qD,hd];have h1:val (a.take k)<4294967296^k:=wI (aaf ha k) aQ;have h2:4294967296^k*(a.getD k 0+1)<=4294967296^k*b.getD k 0:=l9 _ h;rw[fp,fp];rw[fp]at h2;omega
theorem avi{a b:List Nat}{k:Nat}(hk:k<a.length)(qD:k<b.length)(hd:a.drop (k+1)=b.drop (k+1))(h:a.getD k 0=b.getD k 0):a.drop k=b.drop k:=by
 rw[xR hk,xR qD,hd];rw[bq,ck hk,bq,ck qD]at h;simp only[acE]at h;rw[h]
theorem aET{a b:List Nat}{k:Nat}(hk:k<a.length)(qD:k<b.length)(hd:a.take k=b.take k)(h:a.getD k 0=b.getD k 0):a.take (k+1)=b.take (k+1):=by
 rw[adQ hk,adQ qD,hd];rw[bq,ck hk,bq,ck qD]at h;simp only[acE]at h;rw[h]
theorem aus{k c:Nat}{a b o:List Nat}(dK:k<o.length)(hv:val (o.take k)+4294967296^k*c=val (a.take k)+val (b.take k)){s:Nat}(hs:s=c+a.getD k 0+b.getD k 0):
  val ((o.set k (s%4294967296)).take (k+1))+4294967296^(k+1)*(s/4294967296)=val (a.take (k+1))+val (b.take (k+1)):=by
 rw[ac5 _ _ _ dK,rY a,rY b,kC];have h1:=aeg (4294967296^k) s;have h2:4294967296^k*s=4294967296^k*c+4294967296^k*a.getD k 0+4294967296^k*b.getD k 0:=by rw[hs,fp,fp]
 omega
theorem aEu{c:Nat}{a b o:List Nat}(hba:b.length<=a.length)(dK:o.length=a.length+1)(cI:cE o)(hc:c<4294967296)(hv:val (o.take a.length)+4294967296^a.length*c=val (a.take a.length)+val (b.take a.length)):
  aap (o.set a.length c)=ak (val a+val b):=by
 rw[yt (ox cI _ _ hc)];congr 1;have h1:=ac5 o a.length c J;rw[cy aQ]at h1;rw[afo a (bF _),afo b hba]at hv;omega
theorem awC{k br:Nat}{a b o:List Nat}(dK:k<o.length)(hv:val (o.take k)+val (b.take k)=val (a.take k)+4294967296^k*br){y:Nat}(hy:y=br+b.getD k 0)(h:y<=a.getD k 0):
  val ((o.set k (a.getD k 0-y)).take (k+1))+val (b.take (k+1))=val (a.take (k+1))+4294967296^(k+1)*0:=by
 rw[ac5 _ _ _ dK,rY a,rY b];have h2:4294967296^k*a.getD k 0=4294967296^k*(a.getD k 0-y)+4294967296^k*br+4294967296^k*b.getD k 0:=by
  rw[<-fp,<-fp];congr 1;omega
 omega
theorem ayq{k br:Nat}{a b o:List Nat}(dK:k<o.length)(hv:val (o.take k)+val (b.take k)=val (a.take k)+4294967296^k*br){y:Nat}(hy:y=br+b.getD k 0)(h:a.getD k 0<y)(hy2:y<=4294967296):
  val ((o.set k (4294967296+a.getD k 0-y)).take (k+1))+val (b.take (k+1))=val (a.take (k+1))+4294967296^(k+1)*1:=by
 rw[ac5 _ _ _ dK,rY a,rY b,kC];have h2:4294967296^k*4294967296+4294967296^k*a.getD k 0=4294967296^k*(4294967296+a.getD k 0-y)+4294967296^k*br+4294967296^k*b.getD k 0:=by
  rw[<-fp,<-fp,<-fp];congr 1;omega
 omega
theorem aw6{br:Nat}{a b o:List Nat}(iC:cE a)(cI:cE o)(dK:o.length=a.length)(ve:b.length<=a.length)(hle:val b<=val a)
  (hv:val (o.take a.length)+val (b.take a.length)=val (a.take a.length)+4294967296^a.length*br):aap o=ak (val a-val b):=by
 rw[yt cI];congr 1;rw[afo a (bF _),afo b ve,afo o J]at hv;have h1:=aew cI;rw[dK]at h1
 cases br with
 |zero=>omega
 |succ n =>
  rw[Nat.mul_succ]at hv;omega
theorem aA2{i j c x:Nat}{b o:List Nat}{v0:Nat}(dK:i+j<o.length)(hv:val o+4294967296^(i+j)*c=v0+4294967296^i*(x*val (b.take j))){s:Nat}
  (hs:s=c+(x*b.getD j 0+o.getD (i+j) 0)) :
  val (o.set (i+j) (s%4294967296))+4294967296^(i+(j+1))*(s/4294967296)=v0+4294967296^i*(x*val (b.take (j+1))):=by
 have h1:=afZ (x:=s%4294967296) dK;have h2:=aeg (4294967296^(i+j)) s;have h3:4294967296^i*(x*val (b.take (j+1)))=4294967296^i*(x*val (b.take j))+4294967296^(i+j)*(x*b.getD j 0):=by
  rw[rY,fp,fp,nw];congr 1;rw[aeZ x,iD]
 have h4:4294967296^(i+j)*s=4294967296^(i+j)*c+4294967296^(i+j)*(x*b.getD j 0)+4294967296^(i+j)*o.getD (i+j) 0:=by
  rw[hs,fp,fp];omega
 have h5:4294967296^(i+(j+1))=4294967296^(i+j)*4294967296:=by rw[<-Nat.add_assoc,kC]
 rw[h3,h5];omega
theorem auV{i c x:Nat}{a b o:List Nat}{v0:Nat}(_hi:i<a.length)(dK:i+b.length<o.length)(h0:o.getD (i+b.length) 0=0)(hx:x=a.getD i 0)(hv0:v0=val (a.take i)*val b)
  (hv:val o+4294967296^(i+b.length)*c=v0+4294967296^i*(x*val (b.take b.length))) :
  val (o.set (i+b.length) c)=val (a.take (i+1))*val b:=by
 have h1:=afZ (x:=c) dK;rw[py]at hv;have h2:val (a.take (i+1))*val b=v0+4294967296^i*(x*val b):=by
  rw[rY,iV,hv0,hx,iD]
 rw[h2];rw[h0]at h1;omega
theorem atZ{k d r:Nat}{a q:List Nat}(hk:k<a.length)(hq:q.length=a.length)(hv:val (q.drop (k+1))*d+r=val (a.drop (k+1))){s:Nat}(hs:s=r*4294967296+a.getD k 0):
  val ((q.set k (s/d)).drop k)*d+s%d=val (a.drop k):=by
 rw[axG J,rH hk,<-hv,iV];have:=aeW s d;rw[ie (s/d)];rw[fp,hs]at *
 have e:4294967296*val (q.drop (k+1))*d=4294967296*(val (q.drop (k+1))*d):=by rw[iD]
 rw[e];omega
theorem asI{d r x:Nat}(hr:r<d)(hx:x<4294967296):(r*4294967296+x)/d<4294967296:=by
 rw[pM J];have:(r+1)*4294967296<=d*4294967296:=jd _ hr;rw[ie 4294967296];omega
theorem avC{d r:Nat}{a q:List Nat}(hd:0<d)(hr:r<d)(hq:cE q)(hv:val (q.drop 0)*d+r=val (a.drop 0)):aap q=ak (val a/d)/\r=val a%d:=by
 rw[jv,jv]at hv;rw[yt hq,<-hv];refine⟨?_,?_⟩
 ·congr 1;rw[ie,aBl hd,acT hr];rfl
 rw[ie,Nat.mul_add_mod,jU hr]
theorem aFa{k c p:Nat}{a o:List Nat}(dK:k<o.length)(hv:val (o.take k)+4294967296^k*c=val (a.take k)*p){s:Nat}(hs:s=a.getD k 0*p+c):
  val ((o.set k (s%4294967296)).take (k+1))+4294967296^(k+1)*(s/4294967296)=val (a.take (k+1))*p:=by
 rw[ac5 _ _ _ dK,rY a,kC,iV];have h1:=aeg (4294967296^k) s;have h2:4294967296^k*s=4294967296^k*(a.getD k 0*p)+4294967296^k*c:=by rw[hs,fp]
 have h3:4294967296^k*a.getD k 0*p=4294967296^k*(a.getD k 0*p):=by rw[iD]
 omega
theorem aKt{c p:Nat}{a o:List Nat}(dK:o.length=a.length+1)(hv:val (o.take a.length)+4294967296^a.length*c=val (a.take a.length)*p):val (o.set a.length c)=val a*p:=by
 have h1:=ac5 o a.length c J;rw[cy aQ]at h1;rw[afo a (bF _)]at hv;omega
def eI(n:Nat):Nat:=if n=0 then 0 else n.log2+1
theorem aaa{n:Nat}:eI n=0↔n=0:=by unfold eI;split<;>simp_all
theorem yP{n k:Nat}:eI n<=k↔n<2^k:=by
 unfold eI;split
 ·rename_i h;subst h;simp[ov]
 rename_i h;rw[Nat.succ_le_iff,Nat.log2_lt h]
theorem anQ{n k:Nat}:k<eI n↔2^k<=n:=by
 rw[<-Nat.not_le,yP,ap1]
theorem aId{n:Nat}:eI n=1↔n=1:=by
 have h1:=yP (n:=n) (k:=1);have h0:=aaa (n:=n);simp only[Nat.pow_one]at h1;omega
theorem aOE{n k:Nat}(h1:2^k<=n)(h2:n<2^(k+1)):eI n=k+1:=by
 have a:=anQ.2 h1;have b:=yP.2 h2;omega
theorem alL{n k:Nat}(h:2^k<=n):eI n=k+eI (n/2^k):=by
 have hp:0<2^k:=ov J;have h0:n/2^k≠0:=by
  intro e;rw[Nat.div_eq_zero_iff]at e;omega
 have h1:0<eI (n/2^k):=by
  rcases aj6 (eI (n/2^k))with e|e
  ·exact absurd (aaa.1 e) h0
  exact e
 obtain⟨j,hj⟩:∃j,eI (n/2^k)=j+1:=⟨_,(Nat.sub_add_cancel h1).symm⟩;have h2:2^j<=n/2^k:=anQ.1 J;have h3:n/2^k<2^(j+1):=yP.1 J;rw[aaY hp,<-nw]at h2;rw[pM hp,<-nw]at h3;rw[hj];have:=aOE (n:=n) (k:=k+j) (by rwa[vQ k]) (by rwa[vQ k,anZ]);omega
theorem aGT{l:List Nat}(hL:cE l)(h:Can l)(hl:0<l.length):eI (val l)=32*(l.length-1)+eI (l.getD (l.length-1) 0):=by
 have aZ:=afI h hl;have hp:0<4294967296^(l.length-1):=ov J;have hd:val (l.drop (l.length-1))=l.getD (l.length-1) 0:=by
  rw[rH J,show l.length-1+1=l.length by omega,List.drop_length];simp[val]
 have hs:=wh l (l.length-1) J;have ht:val (l.take (l.length-1))<4294967296^(l.length-1):=wI (aaf hL _) aE;rw[hd]at hs;have ato:(2:Nat)^(32*(l.length-1))=4294967296^(l.length-1):=by rw[Nat.pow_mul]
 have mr:4294967296^(l.length-1)*1<=4294967296^(l.length-1)*l.getD (l.length-1) 0:=l9 _ J;rw[alL (k:=32*(l.length-1)) (by rw[ato];omega),ato];congr 2;rw[hs,vQ,aBl hp,acT ht];rfl
end Go.Lg
namespace Go.Lg
section
variable {a b s x c:Nat}
theorem aAh(hs:s<64)(h:a*2^s<18446744073709551616):rN .shl .u64 (a:Nat) (s:Nat)=some (.int .u64 ((a*2^s:Nat):Int)):=by
 have e:min ((s:Int)).toNat IntKind.u64.bits=s:=by show min s 64=s;omega
 have e2:(a:Int)*2^s=((a*2^s:Nat):Int):=aE;simp only[rN];rw[if_neg J,e,e2,IntWalk.u64_in _ J]
theorem agJ{k:IntKind}{m:Nat}(hm:m<=k.bits):rN .shr k (a:Nat) (m:Nat)=some (.int k ((a/2^m:Nat):Int)):=by
 have e:min ((m:Int)).toNat k.bits=m:=by show min m k.bits=m;omega
 simp only[rN];rw[if_neg J,e,ans _ (Int.pow_nonneg J)];congr 2
theorem orV(hc:c<2^s)(h:x*2^s+c<18446744073709551616):eO .or .u64 (c:Nat) ((x*2^s:Nat):Int)=some (.int .u64 ((x*2^s+c:Nat):Int)):=by
 have e:(we IntKind.u64.bits (c:Int) ||| we IntKind.u64.bits ((x*2^s:Nat):Int)).toNat=x*2^s+c:=by
  rw[acs,acs,aoN,acj,acj];have e1:x*2^s%2^IntKind.u64.bits=x*2^s:=jU (by show _<18446744073709551616;omega);have e2:c%2^IntKind.u64.bits=c:=jU (by show _<18446744073709551616;omega);rw[e1,e2,avS];have:=an6 (i:=s) (b:=c) hc x;rw[aot]at this;exact this.symm
 simp only[eO,e];rw[IntWalk.u64_in _ J]
theorem tbl{s:ByteArray}(h:(cN 256).all (fun n=>s[n]?==some (UInt8.ofNat (eI n)))=true){n:Nat}(hn:n<256):s[n]?=some (UInt8.ofNat (eI n)):=by
 rw[List.all_eq_true]at h;simpa using h n (by simpa using hn)
end
def jT:Nat->Nat->List Nat
 |0,_=>[]
 |k+1,m=>m%4294967296::jT k (m/4294967296)
theorem afp:∀k m,(jT k m).length=k
 |0,_=>rfl
 |k+1,m=>by simp[jT,afp k]
theorem ary:∀k m,cE (jT k m)
 |0,_=>fun x h=>by simp[jT]at h
 |k+1,m=>fun x h=>by
   simp only[jT,dS]at h;rcases h with rfl|h
   ·omega
   exact ary k _ x h
theorem al3:∀{o:List Nat} {k:Nat},cE o->o.length=k->o=jT k (val o)
 | [],k,_,h=>by subst h;rfl
 |x::xs,k,hl,h=>by
   subst h;have hx:=hl x aE;have ih:=al3 (o:=xs) (k:=xs.length) (fun y hy=>hl y (by simp[hy])) rfl;simp only[dR,jT,val];have e1:(x+4294967296*val xs)%4294967296=x:=J;have e2:(x+4294967296*val xs)/4294967296=val xs:=J;rw[e1,e2,<-ih]
theorem aqH:∀{k m:Nat},m<4294967296^k->val (jT k m)=m
 |0,m,h=>by simp at h;subst h;rfl
 |k+1,m,h=>by
   simp only[jT,val];rw[aqH (k:=k) (by rw[pM J];rwa[kC]at h)];omega
section
variable {P:Program} {ρ:Operand->LV} {α:Type} {e:α->LV}
theorem dV.aqa{T E:TypeId}{x y:Operand}{d sz:Nat}{ag:Bool}{z a b:α}(he:jF e sz ag)(hT:P.underlying T=some (.slice E))(hz:dM P E (e z))(hE:bS P E sz ag)(hx:ρ x=e a)(hy:ρ y=e b)(fb:0<sz)(mb:sz<=1000):
  dV P ρ d (.buildSlice T 2 #[(0,x),(1,y)]) (.ref d sz 0 2) ⟨sz,[a,b].map e,true⟩:=by
 have:=dV.lit (P:=P) (ρ:=ρ) (d:=d) (T:=T) (n:=2) (ps:=#[(0,x),(1,y)]) hT hz (by rw[he.isAgg];exact hE) (he.aq z) J J fb (by
  intro p hp;simp only[dS,jR,or_false]at hp;rcases hp with rfl|rfl
  ·refine⟨by simp,?_,by rw[hx];exact LV.fJ (he.pure _),by rw[hx];exact LV.fh (he.pure _)⟩;simp[lay,hx,he.aq,he.isAgg]
  refine⟨by simp,?_,by rw[hy];exact LV.fJ (he.pure _),by rw[hy];exact LV.fh (he.pure _)⟩;simp[lay,hy,he.aq,he.isAgg])
 simpa[kP,hx,hy,av]using this
end
section
variable {P:Program} {n:Nat} {W w:World} {X:XS} {Z0:Nat->Prop} {L:St} {a:Act} {K:St->Prop} {Q:lR->St->Prop}
theorem aH6{s0 d1 d2 sz:Nat}{l:List LV}{T E ty ty' U:TypeId}{pos pos':String}{af af':Array Edge}(h0:L.slot s0=.list sz l)(hT:P.underlying T=some (.slice E))
  (hK:∀b:Bool,(b=true->l=[])->Q .normal ((L.put (some d1) (.list sz l)).put (some d2) (.v (.bool b)))) :
  ∀n W X Z0 a w,ic n W X Z0 L a w->mQ n (.region 0 [Oper.mk (some d1) (.move (.tmp s0)) ty pos af none,Oper.mk (some d2) (.binOp .eql T (.tmp d1) (.const (.slice none 0 0)) U) ty' pos' af' none].toArray false)=true ->
   ∀id,(Code.region id [Oper.mk (some d1) (.move (.tmp s0)) ty pos af none,Oper.mk (some d2) (.binOp .eql T (.tmp d1) (.const (.slice none 0 0)) U) ty' pos' af' none].toArray false).wp P (aeN n W X Z0 Q) a w:=by
 intro n W X Z0 a w hs hd id;simp only[mQ,List.all_cons,List.all_nil,Bool.and_true,Bool.and_eq_true,decide_eq_true_eq]at hd;refine wp_region_list ?_;have h1:=adp (P:=P) (dr:=false) (ops:=[Oper.mk (some d1) (.move (.tmp s0)) ty pos af none,Oper.mk (some d2) (.binOp .eql T (.tmp d1) (.const (.slice none 0 0)) U) ty' pos' af' none].toArray)
  (o:=Oper.mk (some d1) (.move (.tmp s0)) ty pos af none) hs (L':=L.put (some d1) (.list sz l))
  (.val (r:=.list sz l) (fr:=[]) (H1:=L.heap) rfl (cd.le_refl _) (fun _ _ h=>by cases h) (.pure (by have:=aM.move (P:=P) (H:=L.heap) (ρ:=L.ev) (.tmp s0);rwa[show L.ev (.tmp s0)=LV.list sz l from h0]at this)) rfl)
  (fun t ht=>by cases ht;exact hd.1)
  (K:=wpList P [Oper.mk (some d1) (.move (.tmp s0)) ty pos af none,Oper.mk (some d2) (.binOp .eql T (.tmp d1) (.const (.slice none 0 0)) U) ty' pos' af' none].toArray (aeN n W X Z0 Q)
   [Oper.mk (some d2) (.binOp .eql T (.tmp d1) (.const (.slice none 0 0)) U) ty' pos' af' none]) (Q:=aeN n W X Z0 Q) (fun a' w' kF=>?_)
 ·unfold wpList;split
  ·rename_i h;rw[if_pos h]at h1;exact .inl h1
  rename_i h;rw[if_neg h]at h1;exact h1
 obtain⟨fA,bU,μ,Z,hc,hr⟩:=kF;have e1:=hr d1;rw[iU,if_pos rfl]at e1;have e2:=e1.2 rfl;simp only[aH]at e2;obtain⟨ad,len,cap,q1,q2,q3,q4,q5⟩:=e2;simp only[iF,and_true]at q1;have gV:a'.eval (.tmp d1)=.slice ad len cap:=q1;have hw:Region.wanted (Oper.mk (some d2) (.binOp .eql T (.tmp d1) (.const (.slice none 0 0)) U) ty' pos' af' none) (yielded [Oper.mk (some d1) (.move (.tmp s0)) ty pos af none,Oper.mk (some d2) (.binOp .eql T (.tmp d1) (.const (.slice none 0 0)) U) ty' pos' af' none].toArray a'.tmps)=true:=rfl;unfold wpList;rw[if_pos hw];left;have iA:(execOp a'.eval (Oper.mk (some d2) (.binOp .eql T (.tmp d1) (.const (.slice none 0 0)) U) ty' pos' af' none)).run P w'=.ok (.value (.bool ad.isNone)) w':=by
  have hv:a'.eval (.const (.slice none 0 0))=.slice none 0 0:=rfl;simp only[execOp,gV,hv];simp[eqGuard,binOp,run_equal_slice_nil w' T E ad len cap hT]
 unfold Oper.wp;rw[iA,Oper.upon_value];refine⟨_,hK ad.isNone ?_,by rw[put_defers];exact fA,by rw[uL];exact bU,μ,Z,by rw[kH];exact hc,uN (fun t ht=>by cases ht;rw[bU];exact hd.2) hr bJ.bool⟩;intro hb;rcases q4 with q4|⟨blk,off,c,T',fz,part,rest,g1,_⟩
 ·exact q4
 rw[g1]at hb;cases hb
end
section
variable {R V p vt v2 vl top u2 rl:Nat}
theorem aNC(hV:V=(vt*4294967296+v2)*p+vl)(hR:R=(top*4294967296+u2)*p+rl)(n8:rl<p)(wG:u2<4294967296)(wX:0<vt):R/V<=top/vt:=by
 rw[aaY wX];have h1:R/V*V<=R:=Nat.div_mul_le_self R V;have h2:R/V*(vt*4294967296*p)<=R/V*V:=l9 _ (by rw[hV,iV];omega);have h3:R<(top+1)*4294967296*p:=by
  rw[hR];have:(top*4294967296+u2+1)*p<=(top+1)*4294967296*p:=jd _ J;rw[iV _ 1]at this;omega
 have h4:R/V*vt*(4294967296*p)<(top+1)*(4294967296*p):=by
  have e1:R/V*vt*(4294967296*p)=R/V*(vt*4294967296*p):=by simp only[iD]
  have e2:(top+1)*(4294967296*p)=(top+1)*4294967296*p:=by simp only[iD]
  rw[e1,e2];omega
 exact Nat.le_of_lt_succ (aBq h4)
theorem aEO{x rest:Nat}(hV:V=(vt*4294967296+v2)*p+vl)(hR:R=(top*4294967296+u2)*p+rl)(n8:rl<p)(mV:0<V)
  (hx:x*vt+rest=top) (h:rest*4294967296+u2<x*v2):R/V<x:=by
 rw[pM mV];have h1:x*((vt*4294967296+v2)*p)<=x*V:=l9 _ (by rw[hV];omega);have h2:top*4294967296+u2+1<=x*(vt*4294967296+v2):=by
  rw[<-hx,iV,fp,iD];omega
 have h3:(top*4294967296+u2+1)*p<=x*(vt*4294967296+v2)*p:=jd _ h2;rw[iV _ 1]at h3;rw[iD]at h3;omega
theorem aor{x rest:Nat}(hV:V=(vt*4294967296+v2)*p+vl)(hR:R=(top*4294967296+u2)*p+rl)(tw:vl<p)(wX:0<vt)(mV:0<V)
  (hx:x*vt+rest=top) (hxB:x<=4294967296) (h:x*v2<=rest*4294967296+u2):x<=R/V+1:=by
 cases x with
 |zero=>exact Nat.zero_le _
 |succ y =>
  have:y<=R/V:=by
   rw[aaY mV];have h1:(y+1)*(vt*4294967296+v2)<=top*4294967296+u2:=by
    rw[<-hx,fp,iV _ rest,<-iD];omega
   have h2:(y+1)*(vt*4294967296+v2)*p<=(top*4294967296+u2)*p:=jd _ h1;have h3:y*vl<=y*p:=l9 _ (ym tw);have h4:y*p<=4294967296*p:=jd _ J;have h5:4294967296*p<=(vt*4294967296+v2)*p:=jd _ J;have h6:y*V=y*(vt*4294967296+v2)*p+y*vl:=by rw[hV,fp,iD]
   have h7:(y+1)*(vt*4294967296+v2)*p=y*(vt*4294967296+v2)*p+(vt*4294967296+v2)*p:=by rw[iV,iV,ahy]
   omega
  omega
theorem aPr{un u1:Nat}(hV:V=(vt*4294967296+v2)*p+vl)(hR:R=((un*4294967296+u1)*4294967296+u2)*p+rl)(tw:vl<p)(hv2:v2<4294967296)(hRV:R<V*4294967296):un<=vt:=by
 apply rE;intro h;have h1:(vt+1)*4294967296<=un*4294967296:=J;have h2:(vt*4294967296+v2+1)*4294967296<=(un*4294967296+u1)*4294967296+u2:=by
  have:(vt*4294967296+v2+1)<=un*4294967296+u1:=J;exact aP (jd 4294967296 this) (Nat.le_add_right _ _)
 have h3:(vt*4294967296+v2+1)*4294967296*p<=((un*4294967296+u1)*4294967296+u2)*p:=jd _ h2;have h4:V<=(vt*4294967296+v2+1)*p:=by rw[hV,iV _ 1];omega
 have h5:V*4294967296<=(vt*4294967296+v2+1)*p*4294967296:=jd _ h4;have h6:(vt*4294967296+v2+1)*p*4294967296=(vt*4294967296+v2+1)*4294967296*p:=by rw[aCK]
 omega
theorem aCf{x rest un u1:Nat}(hx:x*vt+rest=un*4294967296+u1)(hun:un<=vt)(hu1:u1<4294967296)(hv2:v2<4294967296)(hr:4294967296<=rest):x<4294967296/\x*v2<=rest*4294967296+u2:=by
 have hxl:x<4294967296:=by
  apply rE;intro h;have h1:4294967296*vt<=x*vt:=jd vt J;omega
 refine⟨hxl,?_⟩;have h1:x*v2<=4294967296*4294967296:=nP (ym hxl) (ym hv2);have h2:4294967296*4294967296<=rest*4294967296:=jd _ hr;omega
end
theorem aKe{l:List Nat}{k:Nat}(h:val l<4294967296^k):∀p,k<=p->l.getD p 0=0:=fun p hp=>by
 apply rE;intro h0;have bV:p<l.length:=by
  apply rE;intro hh;exact h0 (xC l p J)
 have h1:=wh l p J;rw[rH bV]at h1;have h2:4294967296^k<=4294967296^p:=mN J hp;have h3:4294967296^p*1<=4294967296^p*(l.getD p 0+4294967296*val (l.drop (p+1))):=l9 _ J;omega
theorem aiH:∀{l:List Nat},(∀p,l.getD p 0=0)->val l=0
 | [],_=>rfl
 |x::xs,h=>by
   have h0:x=0:=by simpa using h 0
   have:=aiH (l:=xs) (fun p=>by simpa using h (p+1));simp[val,h0,this]
theorem ah4(l:List Nat)(k p:Nat):(l.drop k).getD p 0=l.getD (k+p) 0:=by
 rw[bq,bq,List.getElem?_drop]
theorem aK3{l:List Nat}{k:Nat}(hl:cE l)(h:∀p,k<=p->l.getD p 0=0):val l<4294967296^k:=by
 by_cases hk:k<=l.length
 ·rw[wh l k hk,aiH (l:=l.drop k) (fun p=>by rw[ah4];exact h _ J),abI,nW];exact wI (aaf hl k) aQ
 exact wI hl J
theorem aHn{l:List Nat}{k:Nat}(hk:k+2<l.length)(hz:∀p,k+3<=p->l.getD p 0=0):
  val l=((l.getD (k+2) 0*4294967296+l.getD (k+1) 0)*4294967296+l.getD k 0)*4294967296^k+val (l.take k):=by
 have h3:val (l.drop (k+2+1))=0:=aiH (fun p=>by rw[ah4];exact hz _ J);rw[wh l k J,rH J,rH (k:=k+1) J,rH (k:=k+1+1) J,h3,ie (4294967296^k),vQ,show k+1+1=k+2 from rfl];congr 2;omega
theorem aMU{l:List Nat}{k:Nat}(hk:k+2=l.length):val l=(l.getD (k+1) 0*4294967296+l.getD k 0)*4294967296^k+val (l.take k):=by
 have h3:val (l.drop (k+1+1))=0:=by rw[mE J];rfl
 rw[wh l k J,rH J,rH (k:=k+1) J,h3,ie (4294967296^k),vQ];congr 2;omega
theorem aD5{i j c br x:Nat}{v ul:List Nat}{v0:Nat}(nY:i+j<ul.length)(jb:cE ul)(qj:br<=1)
  (hv:val ul+4294967296^j*(x*val (v.take i))=v0+4294967296^(i+j)*(c+br)) {c1 d:Nat} (uk:c1=c+x*v.getD i 0)
  (hd:d=(18446744073709551616+(18446744073709551616+ul.getD (i+j) 0-c1%4294967296)%18446744073709551616-br)%18446744073709551616) :
  d/9223372036854775808<=1/\cE (ul.set (i+j) (d%4294967296)) /\
   val (ul.set (i+j) (d%4294967296))+4294967296^j*(x*val (v.take (i+1)))=v0+4294967296^(i+1+j)*(c1/4294967296+d/9223372036854775808):=by
 have hu:=kj jb (i+j);refine⟨J,ox jb _ _ J,?_⟩;have h1:=afZ (x:=d%4294967296) nY;have h2:d%4294967296+c1%4294967296+br=ul.getD (i+j) 0+4294967296*(d/9223372036854775808):=J;have h3:4294967296^(i+j)*(d%4294967296)+4294967296^(i+j)*(c1%4294967296)+4294967296^(i+j)*br=4294967296^(i+j)*ul.getD (i+j) 0+4294967296^(i+j)*4294967296*(d/9223372036854775808):=by
  rw[<-fp,<-fp,h2,fp,iD]
 have h4:=aeg (4294967296^(i+j)) c1;have h5:4294967296^(i+j)*c1=4294967296^(i+j)*c+4294967296^j*(x*(4294967296^i*v.getD i 0)):=by
  rw[uk,fp,nw];congr 1;simp only[iD,aeZ,ie]
 have h6:4294967296^(i+1+j)=4294967296^(i+j)*4294967296:=by rw[anZ,kC]
 rw[rY,fp x,fp,h6,fp];rw[fp]at hv;omega
theorem as4{j n c br x t:Nat}{ul:List Nat}{V v0:Nat}(nY:n+j<ul.length)(jb:cE ul)(qj:br<=1)(hc:c<4294967296)
  (hv:val ul+4294967296^j*(x*V)=v0+4294967296^(n+j)*(c+br)) (ht:t=ul.getD (n+j) 0) {d:Nat}
  (hd:d=(18446744073709551616+(18446744073709551616+t-c)%18446744073709551616-br)%18446744073709551616) :
  cE (ul.set (n+j) (d%4294967296))/\d/9223372036854775808<=1 /\
   val (ul.set (n+j) (d%4294967296))+4294967296^j*(x*V)=v0+4294967296^(n+j+1)*(d/9223372036854775808):=by
 have hu:=kj jb (n+j);refine⟨ox jb _ _ J,J,?_⟩;have h1:=afZ (x:=d%4294967296) nY;have h2:d%4294967296+c+br=t+4294967296*(d/9223372036854775808):=J;have h3:4294967296^(n+j)*(d%4294967296)+4294967296^(n+j)*c+4294967296^(n+j)*br=4294967296^(n+j)*t+4294967296^(n+j)*4294967296*(d/9223372036854775808):=by
  rw[<-fp,<-fp,h2,fp,iD]
 rw[kC];rw[fp]at hv;rw[<-ht]at h1;omega
theorem aDO{i j c:Nat}{v ul:List Nat}{v0:Nat}(nY:i+j<ul.length)(jb:cE ul)(hv:val ul+4294967296^(i+j)*c=v0+4294967296^j*val (v.take i)){s:Nat}(hs:s=c+(ul.getD (i+j) 0+v.getD i 0)):
  cE (ul.set (i+j) (s%4294967296))/\val (ul.set (i+j) (s%4294967296))+4294967296^(i+1+j)*(s/4294967296)=v0+4294967296^j*val (v.take (i+1)):=by
 refine⟨ox jb _ _ J,?_⟩;have h1:=afZ (x:=s%4294967296) nY;have h2:=aeg (4294967296^(i+j)) s;have h3:4294967296^(i+j)*s=4294967296^(i+j)*c+4294967296^(i+j)*ul.getD (i+j) 0+4294967296^j*(4294967296^i*v.getD i 0):=by
  rw[hs,fp,fp,nw];simp only[iD,aeZ,ie];omega
 have h6:4294967296^(i+1+j)=4294967296^(i+j)*4294967296:=by rw[anZ,kC]
 rw[rY,fp,h6];omega
end Go.Lg
namespace Go.Lg
theorem xg(k:Nat):0<4294967296^k:=ov J
theorem akl{ul:List Nat}{V n j:Nat}(hVn:V<4294967296^n)(bV:val ul<V*4294967296^(j+1)):∀p,n+j+1<=p->ul.getD p 0=0:=by
 apply aKe;have h1:V*4294967296^(j+1)<=4294967296^n*4294967296^(j+1):=jd _ (ym hVn);rw[<-nw]at h1;exact zT bV h1
theorem apL{ul:List Nat}{V n j:Nat}(hn:(ak V).length=n+2)(nY:n+2+j<ul.length)(jb:cE ul)(bV:val ul<V*4294967296^(j+1)):
  ∃vl rl,vl<4294967296^n/\rl<4294967296^n/\V=((ak V).getD (n+1) 0*4294967296+(ak V).getD n 0)*4294967296^n+vl /\
   val ul/4294967296^j=((ul.getD (n+2+j) 0*4294967296+ul.getD (n+1+j) 0)*4294967296+ul.getD (n+j) 0)*4294967296^n+rl /\
   val ul/4294967296^j<V*4294967296:=by
 have hVn:V<4294967296^(n+2):=xq J;have hz:=akl hVn bV;have h1:=aMU (l:=ak V) (k:=n) J;have h2:=aHn (l:=ul) (k:=n+j) J (fun p hp=>hz p J);rw[cL]at h1;refine⟨val ((ak V).take n),val (ul.take (n+j))/4294967296^j,wI (aaf (dX V) _) aQ,?_,h1,?_,?_⟩
 ·rw[pM (xg j),<-nw];exact wI (aaf jb _) aQ
 ·have e1:n+j+2=n+2+j:=J;have e2:n+j+1=n+1+j:=J;rw[e1,e2]at h2;rw[h2,nw,<-iD,vQ,Nat.add_mul_div_right _ _ (xg j),vQ]
 rw[pM (xg j)];rw[kC]at bV;have e:V*4294967296*4294967296^j=V*(4294967296^j*4294967296):=by rw[iD,ie 4294967296]
 rw[e];exact bV
section
variable {ul ul0:List Nat} {V n j x:Nat}
theorem aFR(h:val ul+4294967296^j*(x*V)=val ul0)(hV:0<V):x<=val ul0/4294967296^j/V:=by
 rw[aaY hV,aaY (xg j),ie _ (4294967296^j)];omega
theorem aH9(h:val ul+4294967296^j*(x*V)=val ul0+4294967296^(n+j+1))(bV:val ul<4294967296^(n+j+1))(hV:0<V):val ul0/4294967296^j/V<x:=by
 rw[pM hV,pM (xg j),ie _ (4294967296^j)];omega
theorem aIk{ul3:List Nat}{c:Nat}(hx:0<x)(hxV:4294967296^j*((x-1)*V)<=val ul0)(h:val ul+4294967296^j*(x*V)=val ul0+4294967296^(n+j+1))(nY:n+j<ul3.length)(oy:cE ul3)(hz:∀p,n+j+1<=p->ul3.getD p 0=0)
  (hc:c<=1) (h3:val ul3+4294967296^(n+j)*c=val ul+4294967296^j*V) {t:Nat} (ht:t=ul3.getD (n+j) 0) :
  cE (ul3.set (n+j) ((t+c)%4294967296))/\val (ul3.set (n+j) ((t+c)%4294967296))+4294967296^j*((x-1)*V)=val ul0:=by
 have hs:=wh ul3 (n+j) J;rw[rH nY,aiH (l:=ul3.drop (n+j+1)) (fun p=>by rw[ah4];exact hz _ J),abI,nW,<-ht]at hs;have acA:val (ul3.take (n+j))<4294967296^(n+j):=wI (aaf oy _) aQ;have zh:=kj oy (n+j);rw[<-ht]at zh;obtain⟨y,rfl⟩:∃y,x=y+1:=⟨x-1,J⟩;rw[tD]at *
 have e1:4294967296^j*((y+1)*V)=4294967296^j*(y*V)+4294967296^j*V:=by rw[iV,ahy,fp]
 rw[e1]at h;have h4:val (ul3.take (n+j))+4294967296^(n+j)*(t+c)=(val ul0-4294967296^j*(y*V))+4294967296^(n+j)*4294967296:=by
  rw[fp,<-kC];omega
 have h5:4294967296<=t+c:=by
  apply rE;intro hh;have:4294967296^(n+j)*(t+c+1)<=4294967296^(n+j)*4294967296:=l9 _ J;rw[fp _ (t+c)]at this;omega
 have h6:t+c=4294967296:=J;rw[h6]at h4 ⊢;refine⟨ox oy _ _ J,?_⟩;have h7:=afZ (x:=4294967296%4294967296) nY;rw[<-ht,aBe,abI,nW]at h7;rw[aBe];omega
theorem avU{ql:List Nat}{U0:Nat}(hV:0<V)(hx:x=val ul0/4294967296^j/V)(h:val ul+4294967296^j*(x*V)=val ul0)(hj:j<ql.length)
  (hv:val ul0+V*4294967296^(j+1)*val (ql.drop (j+1))=U0) :
  val ul+V*4294967296^j*val ((ql.set j x).drop j)=U0/\val ul<V*4294967296^j:=by
 constructor
 ·rw[axG hj,<-hv,<-h,fp];have e1:V*4294967296^j*x=4294967296^j*(x*V):=by simp only[iD,aeZ,ie]
  have e2:V*4294967296^j*(4294967296*val (ql.drop (j+1)))=V*4294967296^(j+1)*val (ql.drop (j+1)):=by
   rw[kC];simp only[iD]
  rw[e1,e2];omega
 have h1:val ul0/4294967296^j<(x+1)*V:=by
  rw[<-pM hV,hx];omega
 rw[pM (xg j)]at h1;have e:(x+1)*V*4294967296^j=4294967296^j*(x*V)+V*4294967296^j:=by
  rw[iV,iV,ahy,ie (x*V)]
 rw[e]at h1;omega
end
theorem aPf{s:Nat}(hs:s<32):2^s<=2147483648:=mN (n:=2) J (show s<=31 by omega)
theorem aPR{top:Nat}(h0:0<top)(h:top<4294967296):2147483648<=top*2^(32-eI top)/\top*2^(32-eI top)<4294967296:=by
 have h1:eI top<=32:=yP.2 h;have h2:1<=eI top:=by
  rcases aj6 (eI top)with e|e
  ·exact absurd (aaa.1 e) J
  exact e
 have h3:2^(eI top-1)<=top:=anQ.1 J;have h4:top<2^eI top:=yP.1 (bF _);constructor
 ·have:=jd (2^(32-eI top)) h3;rw[<-nw,show eI top-1+(32-eI top)=31 by omega]at this;exact this
 have:=ant h4 (ov (n:=32-eI top) (show 0<2 by omega));rw[<-nw,show eI top+(32-eI top)=32 by omega]at this;exact this
theorem axv{Bv n s:Nat}(hn:(ak Bv).length=n+1)(hs:s=32-eI ((ak Bv).getD n 0)):s<32/\(ak (Bv*2^s)).length=n+1/\2147483648*4294967296^n<=Bv*2^s/\Bv*2^s<4294967296^(n+1):=by
 have aZ:=afI (afz Bv) (by omega:0<(ak Bv).length);rw[hn,tD]at aZ;have ad7:=jN Bv n;obtain⟨h1,h2⟩:=aPR (xU aZ) ad7;rw[<-hs]at h1 h2;have hv:Bv=4294967296^n*(ak Bv).getD n 0+val ((ak Bv).take n):=by
  have:=wh (ak Bv) n J;rw[rH J,show (ak Bv).drop (n+1)=[] from mE J,cL]at this;simp only[val,abI,nW]at this;omega
 have acA:val ((ak Bv).take n)<4294967296^n:=wI (aaf (dX Bv) _) aQ;have mr:2147483648*4294967296^n<=Bv*2^s:=by
  have:=l9 (4294967296^n) h1;have e:4294967296^n*((ak Bv).getD n 0*2^s)<=Bv*2^s:=by
   rw[<-iD];exact jd _ J
  rw[ie]at this;omega
 have bV:Bv*2^s<4294967296^(n+1):=by
  have hp:0<2^s:=ov J;have e1:Bv<4294967296^n*((ak Bv).getD n 0+1):=by rw[fp];omega
  have e2:=ant e1 hp;have e3:(ak Bv).getD n 0*2^s+2^s<=4294967296:=by
   have v8:s<=32:=J;have hd:4294967296=2^(32-s)*2^s:=by rw[<-nw,show 32-s+s=32 by omega]
   rw[hd]at h2 ⊢;have:=aBq h2;have:=jd (2^s) this;rw[Nat.succ_mul]at this;exact this
  rw[iD,iV,ahy]at e2;have e4:=l9 (4294967296^n) e3;rw[kC];omega
 refine⟨?_,?_,mr,bV⟩
 ·rcases aj6 (eI ((ak Bv).getD n 0))with e|e
  ·exact absurd (aaa.1 e) aZ
  omega
 have h3:=aai bV;have h4:n<(ak (Bv*2^s)).length:=by
  apply rE;intro hh;have:=xq (n:=Bv*2^s) (k:=n) J;have:=jd (4294967296^n) (show 1<=2147483648 by omega);omega
 omega
theorem azz{V n:Nat}(hn:(ak V).length=n+1)(mr:2147483648*4294967296^n<=V):2147483648<=(ak V).getD n 0:=by
 have hv:=wh (ak V) n J;rw[rH J,show (ak V).drop (n+1)=[] from mE J,cL]at hv;simp only[val,abI,nW]at hv;have acA:val ((ak V).take n)<4294967296^n:=wI (aaf (dX V) _) aQ;apply rE;intro hh;have:=l9 (4294967296^n) (show (ak V).getD n 0+1<=2147483648 by omega);rw[fp,ie _ 2147483648]at this;omega
theorem aDQ{A Bv s n m:Nat}(hs:s<32)(hm:(ak A).length=m)(lK:n+1<=m)(mr:2147483648*4294967296^n<=Bv*2^s):A*2^s<Bv*2^s*4294967296^(m+1-(n+1))/\A*2^s<4294967296^(m+1):=by
 have hA:A<4294967296^m:=xq J;have hp:=aPf hs;have h1:A*2^s<4294967296^m*2147483648:=zT (ant hA (ov J)) (l9 _ hp);constructor
 ·have h2:=jd (4294967296^(m+1-(n+1))) mr;rw[iD,<-nw,show n+(m+1-(n+1))=m by omega]at h2;omega
 rw[kC];exact arP h1 (Nat.mul_lt_mul_of_pos_left J (xg m))
theorem aw0{A Bv s:Nat}{ul ql:List Nat}(hB:0<Bv)(h:val ul+Bv*2^s*val ql=A*2^s)(bV:val ul<Bv*2^s):val ql=A/Bv/\val ul=A%Bv*2^s:=by
 have hp:0<2^s:=ov J;have h1:val ul=A*2^s%(Bv*2^s):=by
  rw[<-h,Nat.add_mul_mod_self_left,jU bV]
 have h2:val ql=A*2^s/(Bv*2^s):=by
  rw[<-h,Nat.add_mul_div_left _ _ (by exact oR hB hp),acT bV,fZ]
 rw[ayP]at h1;rw[Nat.mul_div_mul_right _ _ hp]at h2;exact⟨h2,h1⟩
theorem amM{i s:Nat}{w o:List Nat}(hi:i<w.length)(hs:s<32)(hd:w.getD i 0=o.getD i 0)(hv:2^s*val (w.take i)=val (o.take i)+4294967296^i*(o.getD i 0%2^s)){y:Nat}(hy:y=o.getD i 0/2^s+o.getD (i+1) 0%2^s*2^(32-s)):
  2^s*val ((w.set i y).take (i+1))=val (o.take (i+1))+4294967296^(i+1)*(o.getD (i+1) 0%2^s):=by
 rw[ac5 _ _ _ hi,rY o,fp,hv,kC];have h1:=aeW (o.getD i 0) (2^s);have h2:2^s*(o.getD (i+1) 0%2^s*2^(32-s))=4294967296*(o.getD (i+1) 0%2^s):=by
  rw[aeZ,<-nw,show s+(32-s)=32 by omega,ie]
 have h3:2^s*(4294967296^i*y)=4294967296^i*(2^s*(o.getD i 0/2^s))+4294967296^i*4294967296*(o.getD (i+1) 0%2^s):=by
  rw[aeZ,hy,fp,h2,fp,iD]
 have h4:4294967296^i*o.getD i 0=4294967296^i*(2^s*(o.getD i 0/2^s))+4294967296^i*(o.getD i 0%2^s):=by rw[<-fp,h1]
 omega
section
variable {a b s x c:Nat}
theorem aJ1:eO .and .u64 (a:Nat) 4294967295=some (.int .u64 ((a%4294967296:Nat):Int)):=by
 have e:(we IntKind.u64.bits (a:Int) &&& we IntKind.u64.bits (4294967295:Int)).toNat=a%4294967296:=by
  have h1:(4294967295:Int)=((4294967295:Nat):Int):=rfl;rw[h1,acs,acs,BitVec.toNat_and,acj,acj];have h2:4294967295%2^IntKind.u64.bits=2^32-1:=rfl;rw[h2,Nat.and_two_pow_sub_one_eq_mod];show a%18446744073709551616%4294967296=a%4294967296;omega
 simp only[eO,e];rw[IntWalk.u64_in _ J]
theorem aLn:eO .add .u32 (a:Nat) (b:Nat)=some (.int .u32 (((a+b)%4294967296:Nat):Int)):=by
 simp only[eO];rw[IntKind.wrap_u32];congr 2
theorem aDw(hs:s<=32):rN .shl .u32 (a:Nat) ((s:Nat):Int)=some (.int .u32 ((a%2^(32-s)*2^s:Nat):Int)):=by
 have e:min ((s:Int)).toNat IntKind.u32.bits=s:=by show min s 32=s;omega
 have e2:(a:Int)*2^s=((a*2^s:Nat):Int):=aE;simp only[rN];rw[if_neg J,e,e2,wrap32];congr 3;have:4294967296=2^(32-s)*2^s:=by rw[<-nw,show 32-s+s=32 by omega]
 rw[this,ayP]
theorem aLN(hc:c<2^s)(h:x*2^s+c<4294967296):eO .or .u32 (c:Nat) ((x*2^s:Nat):Int)=some (.int .u32 ((x*2^s+c:Nat):Int)):=by
 have e:(we IntKind.u32.bits (c:Int) ||| we IntKind.u32.bits ((x*2^s:Nat):Int)).toNat=x*2^s+c:=by
  rw[acs,acs,aoN,acj,acj];have e1:x*2^s%2^IntKind.u32.bits=x*2^s:=jU (by show _<4294967296;omega);have e2:c%2^IntKind.u32.bits=c:=jU (by show _<4294967296;omega);rw[e1,e2,avS];have:=an6 (i:=s) (b:=c) hc x;rw[aot]at this;exact this.symm
 simp only[eO,e];rw[IntWalk.u32_in _ J]
theorem aqs{s y z:Nat}(hs:s<=32)(hy:y<4294967296):y/2^s<2^(32-s)/\z%2^s*2^(32-s)+y/2^s<4294967296:=by
 have hd:4294967296=2^(32-s)*2^s:=by rw[<-nw,show 32-s+s=32 by omega]
 have hp:0<2^s:=ov J;have h1:y/2^s<2^(32-s):=by rw[pM hp];omega
 refine⟨h1,?_⟩;have h2:=Nat.mod_lt z hp;have h3:(z%2^s+1)*2^(32-s)<=2^s*2^(32-s):=jd _ h2;rw[iV,ahy,ie (2^s)]at h3;omega
end
theorem azl:∀{l:List Nat},val l=0->∀p,l.getD p 0=0
 | [],_,p=>by simp
 |x::xs,h,p=>by
   simp only[val]at h;have h1:x=0:=J;have h2:val xs=0:=J
   cases p with
   |zero=>simpa using h1
   |succ p=>simpa using azl h2 p
theorem aHH{l:List Nat}{n:Nat}(hn:n=l.length):∀p,kG n l<=p->l.getD p 0=0:=fun p hp=>by
 subst hn;have h1:=(alf l.length l (bF _)).2;rw[py]at h1;have h2:=wh l (kG l.length l) (an9 _ _);rw[h1]at h2;have h3:val (l.drop (kG l.length l))=0:=by
  rcases aj6 (val (l.drop (kG l.length l)))with e|e
  ·exact e
  have:=oR (xg (kG l.length l)) e;omega
 have h4:=azl h3 (p-kG l.length l);rwa[ah4,show kG l.length l+(p-kG l.length l)=p by omega]at h4
theorem auK{l:List Nat}{r s:Nat}(hs:s<=32)(h:val l=r*2^s):l.getD 0 0%2^s=0:=by
 cases l with
 |nil=>simp
 |cons x xs =>
  simp only[val]at h;have hd:4294967296=2^(32-s)*2^s:=by rw[<-nw,show 32-s+s=32 by omega]
  have h1:(x+4294967296*val xs)%2^s=0:=by rw[h,Nat.mul_mod_left]
  rw[hd,aCK,Nat.add_mul_mod_self_right]at h1;simpa using h1
theorem t0:(0:Int).toNat=0:=rfl
theorem aG1{x:Nat}(h:x<4294967296):cE [x]:=fun y hy=>by simp at hy;omega
def adN:List Nat->Code->Option Code
 | [],c=>some c
 |i::p,.seq x y=>if i=0 then adN p x else adN p y
 |i::p,.cond _ x y=>if i=0 then adN p x else adN p y
 |_::p,.block _ c=>adN p c
 |_::p,.loop c=>adN p c
 |_,_=>none
def adF(fn:Func)(p:List Nat):Option Code:=fn.body.bind (adN p)
section
variable {P:Program} {Q:lR->St->Prop} {L L':St}
theorem ag7{fn:Func}{p:List Nat}{c:Code}(h:adF fn p=some c)(k:c9 P c Q L):c9 P ((adF fn p).getD .skip) Q L:=by rw[h];exact k
end
theorem ahc{P:Program}{Q:lR->St->Prop}{L:St}{c:Code}{S:St->St}(h:S L=L)(k:c9 P c Q (S L)):c9 P c Q L:=by rw[<-h];exact k
theorem acG{Q:lR->St->Prop}{S L:St}(k:Q .normal S)(h:S=L):Q .normal L:=h▸k
end Go.Lg
namespace Go.Lg
theorem hce:(∀(p:Prop) [Decidable p],(decide p=true)=p)/\(∀(p:Prop) [Decidable p],(decide p=false)=¬p)/\(∀{α:Type} [BEq α] [LawfulBEq α] {a b:α},((a==b)=true)=(a=b))
  /\ (∀{α:Type} [BEq α] [LawfulBEq α] {a b:α},((a==b)=false)=¬(a=b))/\(∀{α:Type} [BEq α] [LawfulBEq α] {a b:α},((a != b)=true)=¬(a=b))/\(∀{α:Type} [BEq α] [LawfulBEq α] {a b:α},((a != b)=false)=(a=b))
  /\ (∀(b:Bool),(¬(b=true))=(b=false))/\(∀(b:Bool),((!b)=true)=(b=false))/\(∀(b:Bool),((!b)=false)=(b=true))/\(∀(a b:Bool),(a=!b)=¬(a=b))/\(!true)=false/\(!false)=true :=
 ⟨fun _=>by simp,fun _=>by simp,by intros;simp,by intros;simp,by intros;simp,by intros;simp,by simp,by simp,by simp,fun a b=>by cases a<;>cases b<;>simp,rfl,rfl⟩
theorem tm0{p:Prop}(h:p:=by first|exact aeY rfl|exact aeY (abd _)|exact aeY (mq _)|exact aeY (ao.pure _)|exact aeY (bj.pure _)|exact aeY (eY ao _ _)|exact iz (abd _) rfl|exact iz (mq _) rfl|exact iz (ao.pure _) rfl|exact iz (mq _) (mq _)|exact ahv (mq _) (mq _) rfl|exact iz rfl rfl|exact ahv rfl rfl rfl|exact iz (eY ao _ _) (eY ao _ _)|exact iz (eY ao _ _) rfl):p:=h
theorem imZ{H:cd}:dt H (.agg [.v (.bool false),.list 1 [],.list 1 []]) (ae 0):=kZ▸.pure (ao.pure 0)
theorem eu{p:Prop}(h:p:=by first|exact .pure rfl|exact .pure (eY iE _ _)|exact .pure (mq _)|exact .pure (ao.pure _)|exact .pure (bj.pure _)|exact imZ|exact .pure (eY ao _ _)|exact .pure (abd _)|exact .nil _|exact .pure (eY jH _ _)|exact .pure (eY bj _ _)|exact .pure (cu.pure ⟨_,_,_⟩)|exact .pure (ez.pure _)|exact .pure (eY cu _ _)|exact .pure (eY ez _ _)|exact .pure (by assumption)|exact .pure pu):p:=h
theorem im1{p:Prop}(h:p:=by first|exact .pure rfl|exact .pure (eY iE _ _)|exact .pure (mq _)|exact .pure (ao.pure _)|exact .pure (bj.pure _)|exact .pure (eY ao _ _)|exact .pure (abd _)|exact .nil _|exact .pure (eY jH _ _)|exact .pure (eY bj _ _)|exact .pure (by assumption)|exact da iE rfl rfl (by first|rfl|omega|exact(afp _ _).symm|(simp;done)|(simp;omega))|exact da ao rfl rfl (by first|rfl|omega|exact(afp _ _).symm|(simp;done)|(simp;omega))|exact aCd iE rfl rfl (by first|omega|(simp;omega))|exact aCd ao rfl rfl (by first|omega|(simp;omega))):p:=h
theorem nt0{p:Prop}(h:p:=by first|(simp;done)|exact(fun m h=>LV.noConfusion h)|exact LV.fh (mq _)|exact LV.fh (ao.pure _)|exact LV.fh (bj.pure _)|exact LV.fh (abd _)|exact LV.fh (eY ao _ _)|exact LV.fh (by assumption)):p:=h
theorem ni{p:Prop}(h:p:=by first|exact⟨(fun h=>by cases h),(fun _ h=>by cases h)⟩|exact⟨LV.fJ (ao.pure _),LV.fh (ao.pure _)⟩|exact⟨LV.fJ (bj.pure _),LV.fh (bj.pure _)⟩|exact⟨LV.fJ (cu.pure _),LV.fh (cu.pure _)⟩|exact⟨LV.fJ (ez.pure _),LV.fh (ez.pure _)⟩|exact⟨LV.fJ (by assumption),LV.fh (by assumption)⟩):p:=h
theorem aLY{a s:Nat}(hs:s<=32):rN .shl .u32 (a:Nat) (32-(s:Int))=some (.int .u32 ((a%2^s*2^(32-s):Nat):Int)):=by
 have:=aDw (a:=a) (s:=32-s) J;rw[show 32-(32-s)=s by omega]at this;rwa[show (32:Int)-(s:Int)=((32-s:Nat):Int) by omega]
end Go.Lg
namespace Go.Lg
def nV(s:Bool)(n:Nat):Int:=bif s then -(n:Int)else n
theorem aLW(s:Bool):nV s 0=0:=by cases s<;>rfl
theorem akI(s:Bool)(n:Nat):(nV s n).natAbs=n:=by cases s<;>simp[nV]
theorem aDa(q:Rat):nV (decide (q<0)) q.num.natAbs=q.num:=by
 have h:(q<0)↔q.num<0:=by rw[<-aBR,<-azJ];omega
 by_cases hq:q<0
 ·have:=h.1 hq;simp only[hq,decide_true,nV,cond_true];omega
 have h2:¬q.num<0:=fun x=>hq (h.2 x);simp only[hq,decide_false,nV,cond_false];omega
theorem ai0(q:Rat):(q<0)↔q.num<0:=by rw[<-aBR,<-azJ];omega
def qv(s:Bool)(n d:Nat):Rat:=mkRat (nV s n) d
theorem aq3(s:Bool){n d:Nat}(hn:0<n)(hd:0<d):(qv s n d).num.natAbs=n/n.gcd d:=by
 rw[qv,aAF,if_neg J,akI,tf];have h:((n.gcd d:Nat):Int) ∣ nV s n:=by
  cases s
  ·exact apc.2 (acH _ _)
  exact(Int.dvd_neg.2 (apc.2 (acH _ _)))
 rw[Int.natAbs_ediv_of_dvd h,akI];simp
theorem av8(s:Bool)(n:Nat){d:Nat}(hd:0<d):(qv s n d).den=d/n.gcd d:=by
 rw[qv,Rat.den_mkRat,if_neg J,akI,tf]
theorem aHA(s:Bool){n d:Nat}(hn:0<n)(hd:0<d):decide (qv s n d<0)=s:=by
 have h1:(qv s n d).num=nV s n/(n.gcd d:Nat):=by rw[qv,aAF,if_neg J,akI,tf]
 have hg:0<n.gcd d:=Nat.gcd_pos_of_pos_left _ hn;have h2:=aq3 s hn hd;have h3:n/n.gcd d≠0:=by
  have:=Nat.div_pos (Nat.le_of_dvd hn (acH n d)) hg;omega
 cases s
 ·have:0<=(qv false n d).num:=by rw[h1];exact aw9 (by simp[nV]) J
  simp only[decide_eq_false_iff_not];rw[ai0];omega
 have:(qv true n d).num<=0:=by
  rw[h1];simp only[nV,cond_true];have jC:((n.gcd d:Nat):Int) ∣ (n:Int):=apc.2 (acH _ _);rw[Int.neg_ediv_of_dvd jC];have:=aw9 (a:=(n:Int)) (b:=(n.gcd d:Nat)) J J;omega
 simp only[decide_eq_true_eq];rw[ai0];omega
theorem ail(s:Bool)(d:Nat):qv s 0 d=0:=by rw[qv,aLW,Rat.zero_mkRat]
theorem aoM(s:Bool)(n:Nat):qv s n 0=0:=by rw[qv];simp
theorem ou(q:Rat):qv (decide (q<0)) q.num.natAbs q.den=q:=by rw[qv,aDa,ayI]
def sgR(s:Bool)(q:Rat):Rat:=qv s q.num.natAbs q.den
theorem alm(q:Rat):sgR (decide (q<0)) q=q:=ou q
theorem aFE(s:Bool)(n:Nat):nV (!s) n=- nV s n:=by cases s<;>simp[nV]
theorem aKP(q:Rat):sgR (!decide (q<0)) q=-q:=by
 rw[sgR,qv,aFE,<-asc,aDa,ayI]
theorem amx(s t:Bool)(n d m e:Nat):qv s n d*qv t m e=qv (s != t) (n*m) (d*e):=by
 simp only[qv,Rat.mkRat_mul_mkRat];congr 1
 cases s<;>cases t<;>simp[nV,Int.mul_neg,akm]
theorem aCP(s:Bool){n d m e:Nat}(hd:0<d)(he:0<e):qv s n d+qv s m e=qv s (n*e+m*d) (d*e):=by
 simp only[qv];rw[aol _ _ J J];congr 1
 cases s<;>simp[nV,akm]<;>omega
theorem awF(s t:Bool){n d m e:Nat}(hd:0<d)(he:0<e)(ef:s≠t)(h:m*d<=n*e):qv s n d+qv t m e=qv s (n*e-m*d) (d*e):=by
 simp only[qv];rw[aol _ _ J J];congr 1
 cases s<;>cases t<;>simp_all[nV,akm]<;>omega
theorem aAx(s t:Bool){n d m e:Nat}(hd:0<d)(he:0<e)(ef:s≠t)(h:n*e<=m*d):qv s n d+qv t m e=qv t (m*d-n*e) (d*e):=by
 simp only[qv];rw[aol _ _ J J];congr 1
 cases s<;>cases t<;>simp_all[nV,akm]<;>omega
theorem aHK(x:Rat):(-x)⁻¹=-x⁻¹:=ba
theorem aL0(s:Bool)(n d:Nat):(qv s n d)⁻¹=qv s d n:=by
 have h0:(qv false n d)⁻¹=qv false d n:=by
  simp only[qv,Rat.mkRat_eq_div,nV,cond_false];rw[gQ,Rat.inv_mul_rev,Rat.inv_inv,gQ];rfl
 cases s
 ·exact h0
 have e:∀n d:Nat,qv true n d=- qv false n d:=fun n d=>by simp only[qv,nV,cond_true,cond_false,asc]
 rw[e,e,aHK,h0]
theorem ajX(s t:Bool)(n d m e:Nat):qv s n d/qv t m e=qv (s != t) (n*e) (d*m):=by
 rw[gQ,aL0,amx]
theorem aqC(s:Bool){n d k:Nat}(hk:0<k):qv s (n*k) (d*k)=qv s n d:=by
 by_cases hd:d=0
 ·subst hd;simp[aoM]
 simp only[qv];rw[Rat.mkRat_eq_iff (by have:=oR (xU hd) hk;omega) hd]
 cases s<;>simp[nV]<;>grind
theorem zS(q:Rat):jX q=if q.den=1 then 0 else q.den:=rfl
def rl(q:Rat):Nat:=max (ak q.num.natAbs).length (ak q.den).length
theorem nH(q:Rat):(ak q.num.natAbs).length<=rl q:=axY _ _
theorem pL(q:Rat):(ak q.den).length<=rl q:=apb _ _
theorem oJ(q:Rat):(ak (jX q)).length<=rl q:=by
 rw[zS];split
 ·simp[za]
 exact pL q
theorem aPc{q:Rat}{k:Nat}(hn:q.num.natAbs<4294967296^k)(hd:q.den<4294967296^k):rl q<=k :=
 Nat.max_le.2 ⟨aai hn,aai hd⟩
theorem afl(q:Rat):q.num.natAbs<4294967296^rl q/\q.den<4294967296^rl q:=⟨xq (nH q),xq (pL q)⟩
theorem awx(q:Rat):1<=rl q:=by
 have:=pL q;have h:ak q.den≠[]:=fun h=>q.den_nz (vh.1 h);have:=List.length_pos_iff.2 h;omega
theorem ad8(s:Bool){n d k:Nat}(hn:n<4294967296^k)(hd:d<4294967296^k):rl (qv s n d)<=max k 1:=by
 by_cases lY:d=0
 ·subst lY;rw[aoM];exact aP (afT (by rfl)) (apb _ _)
 by_cases jJ:n=0
 ·subst jJ;rw[ail];exact aP (afT (by rfl)) (apb _ _)
 refine aP (aPc (k:=k) ?_ ?_) (axY _ _)
 ·rw[aq3 s J J];exact wQ (x6 _ _) hn
 rw[av8 s n J];exact wQ (x6 _ _) hd
theorem aaO(q:Rat):rl (-q)=rl q:=by simp[rl]
theorem ab4{x y a b:Nat}(hx:x<4294967296^a)(hy:y<4294967296^b):x*y<4294967296^(a+b):=by
 rw[nw];exact Nat.mul_lt_mul'' hx hy
theorem cF(a b:Rat):rl (a*b)<=rl a+rl b:=by
 have ha:=afl a;have hb:=afl b;have:=ad8 (decide (a<0) != decide (b<0)) (ab4 ha.1 hb.1) (ab4 ha.2 hb.2);rw[<-amx,ou,ou]at this;have:=awx a;omega
theorem pv(a b:Rat):rl (a/b)<=rl a+rl b:=by
 have ha:=afl a;have hb:=afl b;have:=ad8 (decide (a<0) != decide (b<0)) (ab4 ha.1 hb.2) (ab4 ha.2 hb.1);rw[<-ajX,ou,ou]at this;have:=awx a;omega
theorem asx{x y k:Nat}(hx:x<4294967296^k)(hy:y<4294967296^k):x+y<4294967296^(k+1):=by
 rw[kC];omega
theorem kO(a b:Rat):rl (a+b)<=rl a+rl b+1:=by
 have ha:=afl a;have hb:=afl b;have hd:=ab4 ha.2 hb.2;have jC:a.den*b.den<4294967296^(rl a+rl b+1):=arP hd (Nat.pow_lt_pow_right J J);have h1:=ab4 ha.1 hb.2;have h2:=ab4 ha.2 hb.1;have hs:=asx h1 h2;have key:∀n,n<=a.num.natAbs*b.den+a.den*b.num.natAbs->∀s,a+b=qv s n (a.den*b.den)->rl (a+b)<=rl a+rl b+1:=by
  intro n hn s e;rw[e];have:=ad8 s (wQ hn hs) jC;omega
 rw[ie a.den b.num.natAbs]at key;by_cases ef:decide (a<0)=decide (b<0)
 ·refine key _ (bF _) (decide (a<0)) ?_;have:=aCP (decide (a<0)) (n:=a.num.natAbs) (m:=b.num.natAbs) a.den_pos b.den_pos;rw[<-this,ou,ef,ou]
 rcases Nat.le_total (b.num.natAbs*a.den) (a.num.natAbs*b.den)with h|h
 ·refine key (a.num.natAbs*b.den-b.num.natAbs*a.den) J (decide (a<0)) ?_;have:=awF _ _ a.den_pos b.den_pos ef h;rw[<-this,ou,ou]
 refine key (b.num.natAbs*a.den-a.num.natAbs*b.den) J (decide (b<0)) ?_;have:=aAx _ _ a.den_pos b.den_pos ef h;rw[<-this,ou,ou]
theorem eX(a b:Rat):rl (a-b)<=rl a+rl b+1:=by
 have:=kO a (-b);rw[aaO]at this;rwa[Rat.sub_eq_add_neg]
theorem agT(s:Bool){n d:Nat}(hn:0<n)(hd:0<d):ae (qv s n d)=.agg [.v (.bool s),bu (n/n.gcd d),bu (if d/n.gcd d=1 then 0 else d/n.gcd d)]:=by
 rw[yV,aHA s hn hd,aq3 s hn hd,zS,av8 s n hd]
def fY(a b:Rat):Int:=if a<b then -1 else if b<a then 1 else 0
section
variable {P:Program} {H:cd} {ρ:Operand->LV} {T:TypeId} {p x:Operand} {b i d sz:Nat} {q:Rat} {vals:List LV} {m ag:Bool} {α:Type} {e:α->LV} {a:α}
theorem aM.aNU(hp:ρ p=.aB b 3 i 0)(hb:H b=some ⟨3,vals,m⟩)(hi:vals[i]?=some (ae q))(hT:bS P T 1 false):aM P H ρ (.load T p) (.v (.bool (decide (q<0)))):=.fa hp hb rfl hi (ao.aq _) (aEK q) hT
theorem aM.aMP(hp:ρ p=.aB b 3 i 1)(hb:H b=some ⟨3,vals,m⟩)(hi:vals[i]?=some (ae q))(hT:bS P T 1 false):aM P H ρ (.load T p) (bu q.num.natAbs):=.fa hp hb rfl hi (ao.aq _) (aKp q) hT
theorem aM.aMr(hp:ρ p=.aB b 3 i 2)(hb:H b=some ⟨3,vals,m⟩)(hi:vals[i]?=some (ae q))(hT:bS P T 1 false):aM P H ρ (.load T p) (bu (jX q)):=.fa hp hb rfl hi (ao.aq _) (aK1 q) hT
theorem aM.aLI(hp:ρ p=.aB b 3 i 0)(hb:H b=some ⟨3,vals,m⟩)(hi:vals[i]?=some (ae q))(hT:bS P T 3 true):aM P H ρ (.load T p) (ae q):=.fa hp hb rfl hi (ao.aq _) (rn q) hT
theorem dV.agd(he:jF e sz ag)(hx:ρ x=e a):dV P ρ d (.box T x) (.aB d sz 0 0) ⟨sz,[e a],true⟩:=by
 have h:=dV.box (P:=P) (ρ:=ρ) (d:=d) (T:=T) (x:=x) (by rw[hx];exact⟨fun h=>by have:=he.pure a;rw[h]at this;simp[LV.pure]at this,LV.fh (he.pure a)⟩);rwa[hx,he.aq]at h
theorem dV.aPB(he:jF e sz ag)(hz:dM P T (e a)):dV P ρ d (.alloc T) (.aB d sz 0 0) ⟨sz,[e a],true⟩:=by
 have h:=dV.alloc (ρ:=ρ) (d:=d) hz;rwa[he.aq]at h
end
section
variable {P:Program} {L:St} {dst:Option Nat} {T:TypeId} {p x:Operand} {b:Nat} {q:Rat} {zs:List LV}
theorem iI.aGw(hp:L.ev p=.aB b 3 0 0)(hb:L.heap b=some ⟨3,[.agg zs],true⟩)(hz:dg zs=3)(hx:L.ev x=ae q)(hT:bS P T 3 true):
  iI P L dst (.store T p x) ((L.bO b (some ⟨3,[ae q],true⟩)).put dst .any):=by
 have h:=iI.store (P:=P) (dst:=dst) (T:=T) (p:=p) (x:=x) (y:=.agg zs) (y':=ae q) hp hb rfl rfl rfl (by simp[LV.aq,hz])
  (by rw[hx];simp[LV.put,hz,ao.aq,ao.isAgg]) (by rw[hx,ao.aq,ao.isAgg];exact hT)
  (by rw[hx];exact⟨fun h=>by have:=ao.pure q;rw[h]at this;simp[LV.pure]at this,LV.fh (ao.pure q)⟩)
 exact h
end
section
variable {P:Program} {H:cd} {ρ:Operand->LV} {T:TypeId} {p x y:Operand} {b i d sz:Nat} {s:Rat×Rat} {vals:List LV} {m ag:Bool} {q r:Rat}
theorem aM.aJL(hp:ρ p=.aB b 6 i 0)(hb:H b=some ⟨6,vals,m⟩)(hi:vals[i]?=some (ar s))(hT:bS P T 3 true):aM P H ρ (.load T p) (ae s.1):=.fa hp hb rfl hi (bj.aq _) (aua s) hT
theorem aM.aG2(hp:ρ p=.aB b 6 i 3)(hb:H b=some ⟨6,vals,m⟩)(hi:vals[i]?=some (ar s))(hT:bS P T 3 true):aM P H ρ (.load T p) (ae s.2):=.fa hp hb rfl hi (bj.aq _) (ay5 s) hT
theorem aM.aN8(hp:ρ p=.aB b 6 i 0)(hb:H b=some ⟨6,vals,m⟩)(hi:vals[i]?=some (ar s))(hT:bS P T 6 true):aM P H ρ (.load T p) (ar s):=.fa hp hb rfl hi (bj.aq _) (aca s) hT
theorem aM.aBS(hT:mP P T [(3,true),(3,true)])(hz:dM P T (.agg [ae 0,ae 0]))(hx:ρ x=ae q)(hy:ρ y=ae r):aM P H ρ (.build T #[(0,x),(1,y)]) (ar (q,r)):=by
 have:=aM.build (P:=P) (H:=H) (ρ:=ρ) (T:=T) (ps:=#[(0,x),(1,y)]) (zs:=[ae 0,ae 0]) (by simpa[lay,ao.aq,ao.isAgg]using hT) hz (by
  simp only[List.forall_mem_cons];exact⟨⟨_,rfl,by simp[lay,hx,ao.aq,ao.isAgg],by rw[hx];exact⟨LV.fJ (ao.pure _),LV.fh (ao.pure _)⟩⟩,⟨_,rfl,by simp[lay,hy,ao.aq,ao.isAgg],by rw[hy];exact⟨LV.fJ (ao.pure _),LV.fh (ao.pure _)⟩⟩,fun _ h=>by cases h⟩)
 rw[zQ];simpa[kP,hx,hy]using this
theorem iI.aOr{L:St}{dst:Option Nat}{s0:Rat×Rat}(hp:L.ev p=.aB b 6 0 0)(hb:L.heap b=some ⟨6,[ar s0],true⟩)(hx:L.ev x=ar s)(hT:bS P T 6 true):
  iI P L dst (.store T p x) ((L.bO b (some ⟨6,[ar s],true⟩)).put dst .any):=by
 have h0:LV.put (ar s0) 0 (L.ev x)=some (ar s):=by
  rw[hx,zQ s0];simp[LV.put,bj.aq,bj.isAgg,dg,LV.aq,ao.aq]
 have h:=iI.store (P:=P) (dst:=dst) (T:=T) (p:=p) (x:=x) (y:=ar s0) (y':=ar s) hp hb rfl rfl rfl (bj.aq _) h0 (by rw[hx,bj.aq,bj.isAgg];exact hT)
  (by rw[hx];exact⟨LV.fJ (bj.pure s),LV.fh (bj.pure s)⟩)
 exact h
theorem aM.aDg{k:Nat}(hp:ρ p=.cx (ar s))(hT:mP P T [(3,true),(3,true)])(hk:k<2):aM P H ρ (.fieldAddr T p k) (.cx (ae (if k=0 then s.1 else s.2))):=by
 refine .aax (fs:=[ae s.1,ae s.2]) (by rw[hp,zQ]) (by simpa[lay,ao.aq,ao.isAgg]using hT) ?_
 match k,hk with
 |0,_=>rfl
 |1,_=>rfl
end
theorem ao9{L:St}{α:Type}{e:α->LV}{ag:Bool}{bs:List Nat}{b sz off len:Nat}{l l':List α}{m:Bool}(he:jF e sz ag)(hb:L.heap b=some ⟨sz,l.map e,m⟩)(uj:bs.contains b=true)(hl:off+len<=l.length)(h:(l.drop off).take len=l'):
  dt (L.b9 bs).heap (.ref b sz off len) (.list sz (l'.map e)):=by
 have:=abG (L:=L) (bs:=bs) (off:=off) (len:=len) hb uj (bm he l) (by simpa using hl);rwa[<-List.map_drop,<-va,h]at this
theorem aGJ{n:Int}(h1:-9223372036854775808<n)(h2:n<=9223372036854775807):(if IntKind.i64.wrap (0-n) > n then IntKind.i64.wrap (0-n)else n)=((n.natAbs:Nat):Int):=by
 rw[IntWalk.i64_in _ J];split<;>omega
theorem agF(n:Int):qv (decide (n<0)) n.natAbs 1=(n:Rat):=by
 have:nV (decide (n<0)) n.natAbs=n:=by
  by_cases h:n<0
  ·simp only[h,decide_true,nV,cond_true];omega
  simp only[h,decide_false,nV,cond_false];omega
 rw[qv,this,Rat.mkRat_one]
theorem ahx(n d:Int):qv (decide (n<0) != decide (d<0)) n.natAbs d.natAbs=(n:Rat)/(d:Rat):=by
 rw[<-agF n,<-agF d,ajX];simp
theorem aIM{q:Rat}(h:q.den<4294967296):(ak (jX q)).length<=1:=wJ.2 (by rw[zS];split<;>omega)
theorem amv{q:Rat}(h:0<(ak (jX q)).length):jX q=q.den:=by
 rw[zS]at h ⊢;split
 ·rename_i h1;rw[if_pos h1]at h;simp[za]at h
 rfl
theorem arz{q:Rat}(h:(ak (jX q)).length=0):q.den=1:=by
 have h0:=vh.1 (List.eq_nil_of_length_eq_zero h);rw[zS]at h0;have:=q.den_pos;split at h0
 ·assumption
 omega
def smB(q:Rat):Bool:=decide (q.num.natAbs<4294967296/\q.den<4294967296)
def pN(q:Rat):Nat:=if smB q then q.num.natAbs else 0
def pD(q:Rat):Nat:=if smB q then q.den else 0
def cq(a:Rat):Int:=if a=0 then 0 else if a<0 then -1 else 1
theorem aBY(q:Rat):cq q=if q.num.natAbs=0 then 0 else if q<0 then -1 else 1:=by
 unfold cq;by_cases h:q=0
 ·subst h;rfl
 have:¬q.num.natAbs=0:=fun h2=>h (Rat.num_eq_zero.1 J);rw[if_neg h,if_neg this]
def sN(l:List Nat)(off n:Nat):List Nat:=if n<4294967296 then l.set off n else(l.set off (n%4294967296)).set (off+1) (n/4294967296)
def oe(n:Nat):Nat:=if n<4294967296 then 1 else 2
theorem aiR{n:Nat}(h0:0<n)(h:n<18446744073709551616):(n<4294967296/\oe n=1/\ak n=[n])\/(4294967296<=n/\oe n=2/\ak n=[n%4294967296,n/4294967296]):=by
 by_cases hn:n<4294967296
 ·exact .inl ⟨hn,by simp[oe,hn],adU h0 hn⟩
 refine .inr ⟨J,by simp[oe,hn],?_⟩;rw[ac0 h0,adU J J]
theorem aJE{n:Nat}(h0:0<n)(h:n<18446744073709551616):((sN [0,0,0,0] 0 n).drop 0).take (oe n)=ak n:=by
 rcases aiR h0 h with⟨h1,h2,h3⟩|⟨h1,h2,h3⟩
 ·rw[h2,h3];simp[sN,h1]
 rw[h2,h3];simp[sN,ap1.2 h1]
theorem aFT{n d:Nat}(h0:0<n)(h:n<18446744073709551616)(g0:0<d)(g:d<18446744073709551616):
  ((sN (sN [0,0,0,0] 0 n) (oe n) d).drop 0).take (oe n)=ak n/\((sN (sN [0,0,0,0] 0 n) (oe n) d).drop (oe n)).take (oe d)=ak d:=by
 rcases aiR h0 h with⟨h1,h2,h3⟩|⟨h1,h2,h3⟩<;>rcases aiR g0 g with⟨g1,g2,g3⟩|⟨g1,g2,g3⟩<;>rw[h2,h3,g2,g3]<;>simp[sN, *,ap1.2]
theorem anq(l:List Nat)(off n:Nat):(sN l off n).length=l.length:=by unfold sN;split<;>simp
section
variable {P:Program} {ρ:Operand->LV} {α:Type} {e:α->LV}
theorem dV.aHW{T E:TypeId}{x y w:Operand}{d sz:Nat}{ag:Bool}{z a b c:α}(he:jF e sz ag)(hT:P.underlying T=some (.slice E))(hz:dM P E (e z))(hE:bS P E sz ag)(hx:ρ x=e a)(hy:ρ y=e b)(hw:ρ w=e c)(fb:0<sz)(mb:sz<=1000):
  dV P ρ d (.buildSlice T 3 #[(0,x),(1,y),(2,w)]) (.ref d sz 0 3) ⟨sz,[a,b,c].map e,true⟩:=by
 have aZ:∀v,ρ v=e a\/ρ v=e b\/ρ v=e c->lay (ρ v)=lay (e z)/\ρ v≠.any/\∀m,ρ v≠.aY m:=by
  rintro v (h|h|h)<;>rw[h]<;>exact⟨by simp[lay,he.aq,he.isAgg],LV.fJ (he.pure _),LV.fh (he.pure _)⟩
 have:=dV.lit (P:=P) (ρ:=ρ) (d:=d) (T:=T) (n:=3) (ps:=#[(0,x),(1,y),(2,w)]) hT hz (by rw[he.isAgg];exact hE) (he.aq z) J J fb (by
  intro p hp;simp only[dS,jR,or_false]at hp;rcases hp with rfl|rfl|rfl
  ·exact⟨by show 0<3;omega,aZ x (.inl hx)⟩
  ·exact⟨by show 1<3;omega,aZ y (.inr (.inl hy))⟩
  exact⟨by show 2<3;omega,aZ w (.inr (.inr hw))⟩)
 simpa[kP,hx,hy,hw,av]using this
theorem dV.aIH{T E:TypeId}{x y w z':Operand}{d sz:Nat}{ag:Bool}{z a b c f:α}(he:jF e sz ag)(hT:P.underlying T=some (.slice E))(hz:dM P E (e z))(hE:bS P E sz ag)(hx:ρ x=e a)(hy:ρ y=e b)(hw:ρ w=e c)(hf:ρ z'=e f)(fb:0<sz)(mb:sz<=1000):
  dV P ρ d (.buildSlice T 4 #[(0,x),(1,y),(2,w),(3,z')]) (.ref d sz 0 4) ⟨sz,[a,b,c,f].map e,true⟩:=by
 have aZ:∀v,ρ v=e a\/ρ v=e b\/ρ v=e c\/ρ v=e f->lay (ρ v)=lay (e z)/\ρ v≠.any/\∀m,ρ v≠.aY m:=by
  rintro v (h|h|h|h)<;>rw[h]<;>exact⟨by simp[lay,he.aq,he.isAgg],LV.fJ (he.pure _),LV.fh (he.pure _)⟩
 have:=dV.lit (P:=P) (ρ:=ρ) (d:=d) (T:=T) (n:=4) (ps:=#[(0,x),(1,y),(2,w),(3,z')]) hT hz (by rw[he.isAgg];exact hE) (he.aq z) J J fb (by
  intro p hp;simp only[dS,jR,or_false]at hp;rcases hp with rfl|rfl|rfl|rfl
  ·exact⟨by show 0<4;omega,aZ x (.inl hx)⟩
  ·exact⟨by show 1<4;omega,aZ y (.inr (.inl hy))⟩
  ·exact⟨by show 2<4;omega,aZ w (.inr (.inr (.inl hw)))⟩
  exact⟨by show 3<4;omega,aZ z' (.inr (.inr (.inr hf)))⟩)
 simpa[kP,hx,hy,hw,hf,av]using this
end
theorem iS{P:Program}{L L0:St}{c:Code}{Q:lR->St->Prop}(hw:au L L0)(h:c9 P (.loop c) Q L0):c9 P (.loop c) Q L:=by
 intro I hI;obtain⟨L1,h1,h2⟩:=h I hI;exact⟨L1,hw.trans h1,h2⟩
section
variable {P:Program} {ops:Array Oper} {D:Array Bool} {L:St} {K:St->Prop} {fuel:Nat}
theorem pb(hr:Region.ready .any ops D=[])(k:K L):jA P ops fuel D L K:=by
 cases fuel with
 |zero=>exact⟨hr,k⟩
 |succ n=>exact⟨fun _=>k,fun i hi=>by rw[hr]at hi;cases hi⟩
theorem di(i:Nat)(o:Oper)(hr:Region.ready .any ops D=[i])(ho:ops[i]?=some o)(h:opsL P false ops [o] L (fun L'=>jA P ops fuel (D.setIfInBounds i true) L' K)):jA P ops (fuel+1) D L K:=by
 refine⟨fun e=>(by rw[hr]at e;cases e),fun j hj=>?_⟩;rw[hr,List.mem_singleton]at hj;subst hj;obtain⟨L',h1,h2⟩:=h;exact⟨o,L',ho,h1,h2⟩
theorem jy(i j:Nat)(o o2:Oper)(hr:Region.ready .any ops D=[i,j])(ho:ops[i]?=some o)(yc:ops[j]?=some o2)(h:opsL P false ops [o] L (fun L'=>jA P ops fuel (D.setIfInBounds i true) L' K))
  (h2:opsL P false ops [o2] L (fun L'=>jA P ops fuel (D.setIfInBounds j true) L' K)):jA P ops (fuel+1) D L K:=by
 refine⟨fun e=>(by rw[hr]at e;cases e),fun x hx=>?_⟩;rw[hr]at hx;simp only[dS,jR,or_false]at hx;rcases hx with rfl|rfl
 ·obtain⟨L',h1,h3⟩:=h;exact⟨o,L',ho,h1,h3⟩
 obtain⟨L',h1,h3⟩:=h2;exact⟨o2,L',yc,h1,h3⟩
end
class UN (P:Program) (T:TypeId) (d:outParam TypeDesc):Prop where
 h:P.underlying T=some d
class TI (P:Program) (T:TypeId) (sz:outParam Nat) (ag:outParam Bool):Prop where
 h:bS P T sz ag
class SI (P:Program) (T:TypeId) (l:outParam (List (Nat×Bool))):Prop where
 h:mP P T l
class BI (P:Program) (T:TypeId) (n:outParam Nat):Prop where
 h:ow P T n
class ZI (P:Program) (T:TypeId) (z:outParam LV):Prop where
 h:dM P T z
class EC (P:Program) (T:TypeId) {α:outParam Type} (e:outParam (α->LV)) (sz:outParam Nat) (ag:outParam Bool) (z:outParam α):Prop where
 h:jF e sz ag
 z:dM P T (e z)
 t:bS P T sz ag
class AE (P:Program) (T:TypeId) {α:outParam Type} (e:outParam (α->LV)) (sz:outParam Nat) (ag:outParam Bool) (z:outParam α):Prop where
 h:jF e sz ag
 z:dM P T (e z)
theorem zHs{p:Prop}(h:p:=by first|(simp only[hce,l1,t0,t1,ik,cL];exact rfl)|exact rfl):p:=h
theorem ai3{S:St->St}{L L1:St}(h:S L1=L):∃L1,au L (S L1):=⟨L1,au.of_eq h⟩
def aKK:BinOp->Bool
 | .eql | .neq | .lss | .leq | .gtr | .geq=>true
 |_=>false
section
variable {P:Program} {H:cd} {ρ:Operand->LV} {α:Type} {e:α->LV} {sz:Nat} {ag:Bool} {z a:α} {T E:TypeId} {p x i:Operand} {L L0:St} {Q:lR->St->Prop} {K:St->Prop}
theorem aM.ldB[c:EC P T e sz ag z](hp:ρ p=.cx (e a)):aM P H ρ (.load T p) (e a):=.aco c.h hp c.t
theorem aM.ldE[Inhabited α][c:EC P T e sz ag z]{b i:Nat}{l:List α}{m:Bool}(hp:ρ p=.aB b sz i 0)(hb:H b=some ⟨sz,l.map e,m⟩)(hi:i<l.length):aM P H ρ (.load T p) (e (l.getD i default)):=.axT c.h hp hb c.t hi
theorem aM.ixL[Inhabited α][u:UN P T (.slice E)][c:EC P E e sz ag z]{l:List α}{k:IntKind}{n:Int}(hx:ρ x=.list sz (l.map e))(hi:ρ i=.v (.int k n))(h0:0<=n)(hn:n<l.length):
  aM P H ρ (.indexAddr T x i) (.cx (e (l.getD n.toNat default))):=.ahP c.h hx u.h c.t hi h0 hn
theorem aM.ixR[u:UN P T (.slice E)][c:TI P E sz ag]{b off len:Nat}{k:IntKind}{n:Int}(hx:ρ x=.ref b sz off len)(hi:ρ i=.v (.int k n))(h0:0<=n)(hn:n<len):
  aM P H ρ (.indexAddr T x i) (.aB b sz (off+n.toNat) 0):=.wL hx u.h c.h hi h0 hn
theorem aM.cmp{op:BinOp}{U:TypeId}{y:Operand}{k:IntKind}{a b:Int}{r:Value}(hc:aKK op=true)(hx:ρ x=.v (.int k a))(hy:ρ y=.v (.int k b))(h:eO op k a b=some r):aM P H ρ (.binOp op T x y U) (.v r):=.bin hx hy h
theorem iI.stE[Inhabited α][c:EC P T e sz ag z]{dst:Option Tmp}{b i:Nat}{l:List α}(hp:L.ev p=.aB b sz i 0)(hb:L.heap b=some ⟨sz,l.map e,true⟩)(hx:L.ev x=e a)(hi:i<l.length):
  iI P L dst (.store T p x) ((L.bO b (some ⟨sz,(l.set i a).map e,true⟩)).put dst .any):=.aEl c.h hp hb hx c.t hi
theorem dV.nr{eH:Nat}[u:UN P T (.slice E)][c:EC P E e sz ag z][b:BI P E eH]{d n m:Nat}{kl kc:IntKind}(hl:ρ x=.v (.int kl (n:Nat)))(hc:ρ i=.v (.int kc (m:Nat)))(lK:n<=m)(hm:eH*m<=281474976710656)(fC:m<=9223372036854775807):
  dV P ρ d (.makeSlice T x i) (.ref d sz 0 n) ⟨sz,(av n z).map e,true⟩:=.arE c.h u.h c.z c.t b.h hl hc lK hm fC
theorem dV.ui[c:EC P T e sz ag z]{d:Nat}(hx:ρ x=e a):dV P ρ d (.box T x) (.aB d sz 0 0) ⟨sz,[e a],true⟩:=.agd c.h hx
theorem aD{c:Operand}{x y:Code}{t:Bool}{u v:Prop}(hc:L.ev c=.v (.bool t))(h1:t=true->u->c9 P x Q L)(h2:t=false->v->c9 P y Q L)
  (e1:(t=true)=u:=by exact zHs) (e2:(t=false)=v:=by exact zHs):c9 P (.cond c x y) Q L:=aoj hc (fun h=>h1 h (e1▸h)) (fun h=>h2 h (e2▸h))
theorem dV.alE[c:AE P T e sz ag z]{d:Nat}:dV P ρ d (.alloc T) (.aB d sz 0 0) ⟨sz,[e z],true⟩:=.aPB c.h c.z
theorem dV.l0[u:UN P T (.slice E)][t:TI P E sz ag]{d:Nat}:dV P ρ d (.buildSlice T 0 #[]) (.ref d sz 0 0) ⟨sz,[],true⟩:=.aee u.h t.h
theorem dV.l1[u:UN P T (.slice E)][c:EC P E e sz ag z]{d:Nat}{x0:Operand}{a0:α}(h0:ρ x0=e a0)(fb:0<sz:=by decide)(mb:sz<=1000:=by decide):dV P ρ d (.buildSlice T 1 #[(0,x0)]) (.ref d sz 0 1) ⟨sz,[a0].map e,true⟩:=.aq5 c.h u.h c.z c.t h0 fb mb
theorem dV.l2[u:UN P T (.slice E)][c:EC P E e sz ag z]{d:Nat}{x0 x1:Operand}{a0 a1:α}(h0:ρ x0=e a0)(h1:ρ x1=e a1)(fb:0<sz:=by decide)(mb:sz<=1000:=by decide):dV P ρ d (.buildSlice T 2 #[(0,x0),(1,x1)]) (.ref d sz 0 2) ⟨sz,[a0,a1].map e,true⟩:=.aqa c.h u.h c.z c.t h0 h1 fb mb
theorem dV.l3[u:UN P T (.slice E)][c:EC P E e sz ag z]{d:Nat}{x0 x1 x2:Operand}{a0 a1 a2:α}(h0:ρ x0=e a0)(h1:ρ x1=e a1)(h2:ρ x2=e a2)(fb:0<sz:=by decide)(mb:sz<=1000:=by decide):dV P ρ d (.buildSlice T 3 #[(0,x0),(1,x1),(2,x2)]) (.ref d sz 0 3) ⟨sz,[a0,a1,a2].map e,true⟩:=.aHW c.h u.h c.z c.t h0 h1 h2 fb mb
theorem dU{dr:Bool}{ops:Array Oper}{l:List Oper}(d:Nat){b:Bool}{u v:Prop}(h:L.slot d=.v (.bool b))(ht:b=true->u->opsL P dr ops l L K)(hf:b=false->v->opsL P dr ops l L K)
  (e1:(b=true)=u:=by exact zHs) (e2:(b=false)=v:=by exact zHs):opsL P dr ops l L K:=aOl h (fun h=>ht h (e1▸h)) (fun h=>hf h (e2▸h))
theorem aM.bd{zs:List LV}{l:List (Nat×Bool)}{ps:Array (Nat×Operand)}[z:ZI P T (.agg zs)][s:SI P T l](h:zs.map lay=l)(hp:∀p∈ps.toList,∃z,zs[p.1]?=some z/\lay (ρ p.2)=lay z/\ρ p.2≠.any/\∀m,ρ p.2≠.aY m):
  aM P H ρ (.build T ps) (.agg (kP zs (ps.toList.map fun p=>(p.1,ρ p.2)))):=.build (h▸s.h) z.h hp
end
def mS(L:St)(h:List (Nat×aV)):List (Nat×LV)->St
 | []=>St.mk L.slot (hp h)
 |(t,x)::r=>(mS L h r).put (some t) x
theorem ms1(L:St)(h:List (Nat×aV)):mS L h []=St.mk L.slot (hp h):=rfl
theorem ms2(L:St)(h:List (Nat×aV))(t:Nat)(x:LV)(r:List (Nat×LV)):mS L h ((t,x)::r)=(mS L h r).put (some t) x:=rfl
theorem bD:type_of% (dI @ms1 (dI @ms2 (dI @e1 ( dI @e2 ( dI @e3 ( dI @e4 ( dI @p1 ( dI @p2 ( dI @p3 ( dI @q1 ( dI @q2 ( dI @q3 ( dI @l1 ( dI @t0 ( dI @t1 ( dI @r1 ( dI @r2 ( dI @r3 ( dI @r4 ( dI @b1 ( dI @b2 ( dI @b3 ( dI @b4 ( dI @b5 ( dI @b6 ( dI @i1 ( dI @i2 ( dI @i3 ( dI @i4 ( dI @i5 ( dI @i6 (fZ)))))))))))))))))))))))))))))))):=dI @ms1 (dI @ms2 (dI @e1 ( dI @e2 ( dI @e3 ( dI @e4 ( dI @p1 ( dI @p2 ( dI @p3 ( dI @q1 ( dI @q2 ( dI @q3 ( dI @l1 ( dI @t0 ( dI @t1 ( dI @r1 ( dI @r2 ( dI @r3 ( dI @r4 ( dI @b1 ( dI @b2 ( dI @b3 ( dI @b4 ( dI @b5 ( dI @b6 ( dI @i1 ( dI @i2 ( dI @i3 ( dI @i4 ( dI @i5 ( dI @i6 (fZ)))))))))))))))))))))))))))))))
namespace H0
theorem aJ{p q:Prop}(k:q)(e:p=q:=by simp only[bD,bo,bp,bh];exact rfl):p:=e.mpr k
end H0
theorem om{p:Prop}(h:p:=by first|(refine aJ ?_;omega)|omega):p:=h
theorem nf{p:Prop}(h:p:=by first|(refine aJ ?_;exact rfl)|exact rfl):p:=h
theorem cl{p:Prop}(h:p:=by first|rfl|(refine aJ ?_;first|exact trivial|rfl|(congr 3<;>omega)|(congr 2<;>omega))):p:=h
theorem ml{p:Prop}(h:p:=by first|rfl|(refine aJ ?_;first|exact trivial|rfl|(congr 2<;>omega))):p:=h
theorem nt1:(!true)=false:=rfl
theorem x7{p:Prop}(h:p:=by first|assumption|with_reducible rfl|with_reducible exact nt1|with_reducible exact nt2):p:=h
theorem gd{p:Prop}(h:p:=by first|exact rfl|exact ib (v:=true) rfl rfl x7 rfl|exact ib (v:=false) rfl rfl x7 rfl):p:=h
theorem nes{p:Prop}(h:p:=by first|(intro p hp;cases hp;done)|(simp only[List.forall_mem_cons];first|exact⟨⟨_,rfl,rfl,ni⟩,fun _ h=>by cases h⟩|exact⟨⟨_,rfl,rfl,ni⟩,⟨_,rfl,rfl,ni⟩,fun _ h=>by cases h⟩|exact⟨⟨_,rfl,rfl,ni⟩,⟨_,rfl,rfl,ni⟩,⟨_,rfl,rfl,ni⟩,fun _ h=>by cases h⟩|exact⟨⟨_,rfl,rfl,ni⟩,⟨_,rfl,rfl,ni⟩,⟨_,rfl,rfl,ni⟩,⟨_,rfl,rfl,ni⟩,fun _ h=>by cases h⟩)):p:=h
theorem cr{p:Prop}(h:p:=by exact .cons eu .nil):p:=h
theorem aC{p:Prop}(h:p:=by exact .cons eu (.cons eu .nil)):p:=h
theorem kN{p:Prop}(h:p:=by exact .cons eu (.cons eu (.cons eu .nil))):p:=h
theorem am5{p:Prop}(h:p:=by exact .cons eu (.cons eu (.cons eu (.cons eu (.cons eu .nil))))):p:=h
theorem am0{p:Prop}(h:p:=by exact .nil):p:=h
theorem vm{p:Prop}(h:p:=by exact .cons im1 .nil):p:=h
section
variable {P:Program} {dr:Bool} {ops:Array Oper} {rest:List Oper} {L:St} {K:St->Prop} {dst:Option Tmp} {ty:TypeId} {pos:String} {af:Array Edge} {g:Option (Nat×Bool)}
theorem cp{f:FuncId}{xs:Array Operand}{as:Array TypeId}{args:List LV}{r:LV}(ha:gR L.heap (xs.toList.map L.ev) args)(hk:an P f args r)(k:opsL P dr ops rest (L.put dst r) K)
  (hg:eg ops L ⟨dst,.call ⟨.value (.func f),xs,as⟩,ty,pos,af,g⟩ true:=by exact gd):opsL P dr ops (⟨dst,.call ⟨.value (.func f),xs,as⟩,ty,pos,af,g⟩::rest) L K:=dN hg ha hk k
theorem vj{f:FuncId}{xs:Array Operand}{as:Array TypeId}{args:List LV}{r:LV}(bs:List Nat)(ha:gR (L.b9 bs).heap (xs.toList.map L.ev) args)(hk:an P f args r)(k:opsL P dr ops rest ((L.b9 bs).put dst r) K)
  (hg:eg ops L ⟨dst,.call ⟨.value (.func f),xs,as⟩,ty,pos,af,g⟩ true:=by exact gd) (h0:bs.contains 0=false:=by exact rfl):opsL P dr ops (⟨dst,.call ⟨.value (.func f),xs,as⟩,ty,pos,af,g⟩::rest) L K:=afr bs hg h0 ha hk k
end
def Nx1{α:Type}(S:α->St->St)(C:α->Prop)(μ:α->Nat)(a:α)(L:St):Prop:=∃a' L2,C a'/\μ a'<μ a/\au L (S a' L2)
theorem dy{α:Type}{P:Program}{Q:lR->St->Prop}{L:St}{k:Code}(S:α->St->St)(C:α->Prop)(μ:α->Nat)(a:α)(hC:C a)(hr:∀a' L1,C a'->c9 P k (oF (Nx1 S C μ a') Q) (S a' L1))
  (h0:∃L1,au L (S a L1):=by apply ai3;repeat (first|exact jB cl|refine aX ?_ cl)):c9 P (.loop k) Q L:=by
 refine ai6 (α:=α) (fun x=>S x) (fun x=>C x) (fun x=>μ x) a hC h0 ?_;rintro a' L1 hc;refine ad2 (fun e L h=>?_) (hr a' L1 hc)
 cases e with
 |normal =>
  obtain⟨a1,L2,h1,h2,h3⟩:=h;exact⟨a1,L2,h1,h2,h3⟩
 |exit i=>exact h
 |ret=>exact h
theorem ji{α:Type}{S:α->St->St}{C:α->Prop}{μ:α->Nat}{a:α}{L L2:St}(a':α)(hc:C a')(hm:μ a'<μ a:=by omega)(he:au L (S a' L2):=by apply au.of_eq;repeat (first|exact jB cl|refine aX ?_ cl)):Nx1 S C μ a L:=⟨a',L2,hc,hm,he⟩
def Nx2{α β:Type}(S:α->β->St->St)(C:α->β->Prop)(μ:α->β->Nat)(a:α)(b:β)(L:St):Prop:=∃a' b' L2,C a' b'/\μ a' b'<μ a b/\au L (S a' b' L2)
theorem kR{α β:Type}{P:Program}{Q:lR->St->Prop}{L:St}{k:Code}(S:α->β->St->St)(C:α->β->Prop)(μ:α->β->Nat)(a:α)(b:β)(hC:C a b)(hr:∀a' b' L1,C a' b'->c9 P k (oF (Nx2 S C μ a' b') Q) (S a' b' L1))
  (h0:∃L1,au L (S a b L1):=by apply ai3;repeat (first|exact jB cl|refine aX ?_ cl)):c9 P (.loop k) Q L:=by
 refine ai6 (α:=α×β) (fun x=>S x.1 x.2) (fun x=>C x.1 x.2) (fun x=>μ x.1 x.2) (a,b) hC h0 ?_;rintro⟨a',b'⟩ L1 hc;refine ad2 (fun e L h=>?_) (hr a' b' L1 hc)
 cases e with
 |normal =>
  obtain⟨a1,b1,L2,h1,h2,h3⟩:=h;exact⟨(a1,b1),L2,h1,h2,h3⟩
 |exit i=>exact h
 |ret=>exact h
theorem ja{α β:Type}{S:α->β->St->St}{C:α->β->Prop}{μ:α->β->Nat}{a:α}{b:β}{L L2:St}(a':α)(b':β)(hc:C a' b')(hm:μ a' b'<μ a b:=by omega)(he:au L (S a' b' L2):=by apply au.of_eq;repeat (first|exact jB cl|refine aX ?_ cl)):Nx2 S C μ a b L:=⟨a',b',L2,hc,hm,he⟩
def Nx3{α β γ:Type}(S:α->β->γ->St->St)(C:α->β->γ->Prop)(μ:α->β->γ->Nat)(a:α)(b:β)(c:γ)(L:St):Prop:=∃a' b' c' L2,C a' b' c'/\μ a' b' c'<μ a b c/\au L (S a' b' c' L2)
theorem wz{α β γ:Type}{P:Program}{Q:lR->St->Prop}{L:St}{k:Code}(S:α->β->γ->St->St)(C:α->β->γ->Prop)(μ:α->β->γ->Nat)(a:α)(b:β)(c:γ)(hC:C a b c)(hr:∀a' b' c' L1,C a' b' c'->c9 P k (oF (Nx3 S C μ a' b' c') Q) (S a' b' c' L1))
  (h0:∃L1,au L (S a b c L1):=by apply ai3;repeat (first|exact jB cl|refine aX ?_ cl)):c9 P (.loop k) Q L:=by
 refine ai6 (α:=α×β×γ) (fun x=>S x.1 x.2.1 x.2.2) (fun x=>C x.1 x.2.1 x.2.2) (fun x=>μ x.1 x.2.1 x.2.2) (a,b,c) hC h0 ?_;rintro⟨a',b',c'⟩ L1 hc;refine ad2 (fun e L h=>?_) (hr a' b' c' L1 hc)
 cases e with
 |normal =>
  obtain⟨a1,b1,c1,L2,h1,h2,h3⟩:=h;exact⟨(a1,b1,c1),L2,h1,h2,h3⟩
 |exit i=>exact h
 |ret=>exact h
theorem vU{α β γ:Type}{S:α->β->γ->St->St}{C:α->β->γ->Prop}{μ:α->β->γ->Nat}{a:α}{b:β}{c:γ}{L L2:St}(a':α)(b':β)(c':γ)(hc:C a' b' c')(hm:μ a' b' c'<μ a b c:=by omega)(he:au L (S a' b' c' L2):=by apply au.of_eq;repeat (first|exact jB cl|refine aX ?_ cl)):Nx3 S C μ a b c L:=⟨a',b',c',L2,hc,hm,he⟩
def Nx4{α β γ δ:Type}(S:α->β->γ->δ->St->St)(C:α->β->γ->δ->Prop)(μ:α->β->γ->δ->Nat)(a:α)(b:β)(c:γ)(d:δ)(L:St):Prop:=∃a' b' c' d' L2,C a' b' c' d'/\μ a' b' c' d'<μ a b c d/\au L (S a' b' c' d' L2)
theorem lp4{α β γ δ:Type}{P:Program}{Q:lR->St->Prop}{L:St}{k:Code}(S:α->β->γ->δ->St->St)(C:α->β->γ->δ->Prop)(μ:α->β->γ->δ->Nat)(a:α)(b:β)(c:γ)(d:δ)(hC:C a b c d)(hr:∀a' b' c' d' L1,C a' b' c' d'->c9 P k (oF (Nx4 S C μ a' b' c' d') Q) (S a' b' c' d' L1))
  (h0:∃L1,au L (S a b c d L1):=by apply ai3;repeat (first|exact jB cl|refine aX ?_ cl)):c9 P (.loop k) Q L:=by
 refine ai6 (α:=α×β×γ×δ) (fun x=>S x.1 x.2.1 x.2.2.1 x.2.2.2) (fun x=>C x.1 x.2.1 x.2.2.1 x.2.2.2) (fun x=>μ x.1 x.2.1 x.2.2.1 x.2.2.2) (a,b,c,d) hC h0 ?_;rintro⟨a',b',c',d'⟩ L1 hc;refine ad2 (fun e L h=>?_) (hr a' b' c' d' L1 hc)
 cases e with
 |normal =>
  obtain⟨a1,b1,c1,d1,L2,h1,h2,h3⟩:=h;exact⟨(a1,b1,c1,d1),L2,h1,h2,h3⟩
 |exit i=>exact h
 |ret=>exact h
theorem uv{α β γ δ:Type}{S:α->β->γ->δ->St->St}{C:α->β->γ->δ->Prop}{μ:α->β->γ->δ->Nat}{a:α}{b:β}{c:γ}{d:δ}{L L2:St}(a':α)(b':β)(c':γ)(d':δ)(hc:C a' b' c' d')(hm:μ a' b' c' d'<μ a b c d:=by omega)(he:au L (S a' b' c' d' L2):=by apply au.of_eq;repeat (first|exact jB cl|refine aX ?_ cl)):Nx4 S C μ a b c d L:=⟨a',b',c',d',L2,hc,hm,he⟩
structure V3 where
 x:Rat
 y:Rat
 z:Rat
instance:Inhabited V3:=⟨⟨0,0,0⟩⟩
def aR(p:V3):LV:=.agg [ae p.x,ae p.y,ae p.z]
theorem cu:jF aR 9 true:=by
 refine⟨fun s=>?_,fun s=>rfl,fun s=>?_⟩<;>simp[aR,LV.aq,dg,LV.pure,aO,ao.aq,ao.pure]
structure aF where
 p:V3
 w:Rat
instance:Inhabited aF:=⟨⟨⟨0,0,0⟩,0⟩⟩
def aA(q:aF):LV:=.agg [aR q.p,ae q.w]
theorem ez:jF aA 12 true:=by
 refine⟨fun s=>?_,fun s=>rfl,fun s=>?_⟩<;>simp[aA,LV.aq,dg,LV.pure,aO,ao.aq,ao.pure,cu.aq,cu.pure]
theorem sW(l:List LV):(LV.agg l).isAgg=true:=rfl
theorem agl(c:Value):(LV.v c).isAgg=false:=rfl
theorem cs{p:Prop}(h:p:=by first|exact rfl|(simp[LV.aq,dg,lay,sW,agl,ao.aq,bj.aq,cu.aq,ez.aq,ao.isAgg,bj.isAgg,cu.isAgg,ez.isAgg];done)):p:=h
theorem pu{p:Prop}(h:p:=by first|exact rfl|(simp[LV.pure,aO,ao.pure,bj.pure,cu.pure,ez.pure, *];done)):p:=h
theorem cU{y:LV}{n:Nat}(hy:y.aq=n)(ha:y.isAgg=true):y.at 0 n true=some y:=by
 cases y with
 |agg l=>simp only[LV.aq]at hy;simp[LV.at,hy]
 |_=>cases ha
theorem aoB(a b:Rat):(ae a).put 0 (ae b)=some (ae b):=aa5 _ _ (by rw[ao.aq,ao.aq]) (by rw[ao.isAgg,ao.isAgg])
theorem aFA(a b:Rat×Rat):(ar a).put 0 (ar b)=some (ar b):=aa5 _ _ (by rw[bj.aq,bj.aq]) (by rw[bj.isAgg,bj.isAgg])
theorem aGa(s:Rat×Rat)(r:Rat):(ar s).put 0 (ae r)=some (ar (r,s.2)):=by
 rw[zQ,zQ];simp[LV.put,aaT,dg,ao.aq,ao.isAgg,aoB]
theorem aNq(s:Rat×Rat)(r:Rat):(ar s).put 3 (ae r)=some (ar (s.1,r)):=by
 rw[zQ,zQ];simp[LV.put,aaT,dg,ao.aq,ao.isAgg,aoB]
theorem atp{p:Prop}(h:p:=by first|exact cU (y:=aR _) (cu.aq _) rfl|exact cU (y:=aA _) (ez.aq _) rfl|exact rfl|(simp only[pK,List.take_succ_cons,List.take_zero,List.take_nil,LV.at,wT,aR,aA,cU,rn,aca,aua,ay5,LV.aq,dg,ao.aq,bj.aq,ao.isAgg,bj.isAgg,Nat.reduceAdd,Nat.reduceLT,Nat.reduceSub,Nat.reduceMul,Nat.add_zero,Nat.zero_add,Int.toNat_natCast,Int.reduceToNat,Int.reduceAdd,Nat.reduceEqDiff,reduceIte,and_true,true_and,and_false,false_and,if_true,if_false,Bool.false_eq_true,Bool.true_eq_false,eq_self,Nat.sub_zero,Nat.lt_irrefl,Nat.sub_self,Nat.zero_mul,Nat.zero_lt_succ]<;>exact rfl)):p:=h
theorem ptp{p:Prop}(h:p:=by first|exact rfl|(simp only[pK,List.take_succ_cons,List.take_zero,List.take_nil,LV.put,aaT,aR,aA,LV.aq,dg,sW,agl,ao.aq,bj.aq,ao.isAgg,bj.isAgg,aoB,aFA,aGa,aNq,Option.map_some,Nat.reduceAdd,Nat.reduceLT,Nat.reduceSub,Nat.reduceMul,Nat.add_zero,Nat.zero_add,Int.toNat_natCast,Int.reduceToNat,Int.reduceAdd,Nat.reduceEqDiff,reduceIte,and_true,true_and,and_false,false_and,if_true,if_false,Bool.false_eq_true,Bool.true_eq_false,eq_self,Nat.sub_zero,Nat.lt_irrefl,Nat.sub_self,Nat.zero_mul,Nat.zero_lt_succ]<;>exact rfl)):p:=h
section
variable {P:Program} {H:cd} {ρ:Operand->LV} {T E:TypeId} {p x i:Operand} {n sz:Nat} {ag:Bool} {fs:List LV} {r:LV} {k:IntKind} {m:Int} {b o j:Nat}
theorem aM.ixa[u:UN P T (.array n E)][t:TI P E sz ag](hx:ρ x=.agg fs)(hi:ρ i=.v (.int k m))(h0:0<=m)(hr:fs[m.toNat]?=some r)(hp:r.pure=true)(hf:fs.map lay=av n (sz,ag)):aM P H ρ (.index T x i) r:=.yj hx u.h t.h hf hi h0 hr hp
theorem aM.ixe[u:UN P T (.array n E)][t:TI P E sz ag]{s2:Nat}(hx:ρ x=.aB b s2 j o)(hi:ρ i=.v (.int k m))(h0:0<=m)(hm:m<n):aM P H ρ (.indexAddr T x i) (.aB b s2 j (o+m.toNat*sz)):=.ado hx u.h t.h hi h0 hm
theorem aM.ixb[u:UN P T (.array n E)][t:TI P E sz ag](hx:ρ x=.cx (.agg fs))(hi:ρ i=.v (.int k m))(h0:0<=m)(hr:fs[m.toNat]?=some r)(hf:fs.map lay=av n (sz,ag)):aM P H ρ (.indexAddr T x i) (.cx r):=.ac3 hx u.h t.h hf hi h0 hr
theorem aM.yX{zs:List LV}{ps:Array (Nat×Operand)}[u:UN P T (.array n E)][t:TI P E sz ag][z:ZI P T (.agg zs)](h:∀z∈zs,lay z=(sz,ag))(hp:∀p∈ps.toList,∃z,zs[p.1]?=some z/\lay (ρ p.2)=lay z/\ρ p.2≠.any/\∀m,ρ p.2≠.aY m):
  aM P H ρ (.build T ps) (.agg (kP zs (ps.toList.map fun p=>(p.1,ρ p.2)))):=.aci u.h t.h h z.h hp
theorem aM.aKv{o0 o1 o2:Operand}{a b c:Rat}[u:UN P T (.array 3 E)][t:TI P E 3 true][z:ZI P T (.agg [ae 0,ae 0,ae 0])](h0:ρ o0=ae a)(h1:ρ o1=ae b)(h2:ρ o2=ae c):
  aM P H ρ (.build T #[(0,o0),(1,o1),(2,o2)]) (.agg [ae a,ae b,ae c]):=by
 have:=aM.yX (H:=H) (ρ:=ρ) (ps:=#[(0,o0),(1,o1),(2,o2)]) (u:=u) (t:=t) (z:=z) aei (by
  intro p hp;simp only[dS,jR,or_false]at hp;rcases hp with rfl|rfl|rfl
  ·exact alX
  ·exact⟨_,rfl,by rw[h1];simp[lay,ao.aq,ao.isAgg],by rw[h1];exact LV.fJ (ao.pure _),by rw[h1];exact LV.fh (ao.pure _)⟩
  exact⟨_,rfl,by rw[h2];simp[lay,ao.aq,ao.isAgg],by rw[h2];exact LV.fJ (ao.pure _),by rw[h2];exact LV.fh (ao.pure _)⟩)
 simpa only[kP,oC,tF,vg,h0,h1,h2]using this
theorem aM.aNX{o0 o1 o2 o3:Operand}{a b c d:Rat}[u:UN P T (.array 4 E)][t:TI P E 3 true][z:ZI P T (.agg [ae 0,ae 0,ae 0,ae 0])](h0:ρ o0=ae a)(h1:ρ o1=ae b)(h2:ρ o2=ae c)(h3:ρ o3=ae d):
  aM P H ρ (.build T #[(0,o0),(1,o1),(2,o2),(3,o3)]) (.agg [ae a,ae b,ae c,ae d]):=by
 have:=aM.yX (H:=H) (ρ:=ρ) (ps:=#[(0,o0),(1,o1),(2,o2),(3,o3)]) (u:=u) (t:=t) (z:=z) aei (by
  intro p hp;simp only[dS,jR,or_false]at hp;rcases hp with rfl|rfl|rfl|rfl
  ·exact alX
  ·exact⟨_,rfl,by rw[h1];simp[lay,ao.aq,ao.isAgg],by rw[h1];exact LV.fJ (ao.pure _),by rw[h1];exact LV.fh (ao.pure _)⟩
  ·exact⟨_,rfl,by rw[h2];simp[lay,ao.aq,ao.isAgg],by rw[h2];exact LV.fJ (ao.pure _),by rw[h2];exact LV.fh (ao.pure _)⟩
  exact⟨_,rfl,by rw[h3];simp[lay,ao.aq,ao.isAgg],by rw[h3];exact LV.fJ (ao.pure _),by rw[h3];exact LV.fh (ao.pure _)⟩)
 simpa only[kP,oC,tF,vg,h0,h1,h2,h3]using this
theorem aM.aMA{o0 o1:Operand}{a b:Rat}[u:UN P T (.array 2 E)][t:TI P E 3 true][z:ZI P T (.agg [ae 0,ae 0])](h0:ρ o0=ae a)(h1:ρ o1=ae b):aM P H ρ (.build T #[(0,o0),(1,o1)]) (.agg [ae a,ae b]):=by
 have:=aM.yX (H:=H) (ρ:=ρ) (ps:=#[(0,o0),(1,o1)]) (u:=u) (t:=t) (z:=z) aei (by
  intro p hp;simp only[dS,jR,or_false]at hp;rcases hp with rfl|rfl
  ·exact alX
  exact⟨_,rfl,by rw[h1];simp[lay,ao.aq,ao.isAgg],by rw[h1];exact LV.fJ (ao.pure _),by rw[h1];exact LV.fh (ao.pure _)⟩)
 simpa only[kP,oC,tF,vg,h0,h1]using this
theorem aM.aF0{o0 o1 o2:Operand}{a b c d e f:Rat}[u:UN P T (.array 3 E)][t:TI P E 6 true][z:ZI P T (.agg [.agg [ae 0,ae 0],.agg [ae 0,ae 0],.agg [ae 0,ae 0]])]
  (h0:ρ o0=.agg [ae a,ae b]) (h1:ρ o1=.agg [ae c,ae d]) (h2:ρ o2=.agg [ae e,ae f]):aM P H ρ (.build T #[(0,o0),(1,o1),(2,o2)]) (.agg [.agg [ae a,ae b],.agg [ae c,ae d],.agg [ae e,ae f]]):=by
 have:=aM.yX (H:=H) (ρ:=ρ) (ps:=#[(0,o0),(1,o1),(2,o2)]) (u:=u) (t:=t) (z:=z) (by simp[lay,LV.aq,dg,ao.aq,sW]) (by
  intro p hp;simp only[dS,jR,or_false]at hp;rcases hp with rfl|rfl|rfl
  ·exact⟨_,rfl,by rw[h0];simp[lay,LV.aq,dg,ao.aq,sW],by rw[h0];exact(fun h=>LV.noConfusion h),by rw[h0];exact(fun _ h=>LV.noConfusion h)⟩
  ·exact⟨_,rfl,by rw[h1];simp[lay,LV.aq,dg,ao.aq,sW],by rw[h1];exact(fun h=>LV.noConfusion h),by rw[h1];exact(fun _ h=>LV.noConfusion h)⟩
  exact⟨_,rfl,by rw[h2];simp[lay,LV.aq,dg,ao.aq,sW],by rw[h2];exact(fun h=>LV.noConfusion h),by rw[h2];exact(fun _ h=>LV.noConfusion h)⟩)
 simpa only[kP,oC,tF,vg,h0,h1,h2]using this
theorem aM.ldp{vals:List LV}{y:LV}{mt:Bool}[t:TI P T n ag](hp:ρ p=.aB b sz j o)(hb:H b=some ⟨sz,vals,mt⟩)(hi:vals[j]?=some y)(hy:y.aq=sz)(hr:y.at o n ag=some r):aM P H ρ (.load T p) r:=.fa hp hb rfl hi hy hr t.h
theorem aM.kQ{c:LV}[t:TI P T n ag](hp:ρ p=.cx c)(hc:c.pure=true)(hs:c.aq=n)(ha:c.isAgg=ag):aM P H ρ (.load T p) c:=.abx hp (by rw[hs,ha];exact t.h) hc
theorem iI.lC{L:St}{vals:List LV}{y y' v:LV}{dst:Option Tmp}[t:TI P T n ag](hp:L.ev p=.aB b sz j o)(hb:L.heap b=some ⟨sz,vals,true⟩)(hi:vals[j]?=some y)(hx:L.ev x=v)(hy:y.aq=sz)(hv:v.aq=n)(hva:v.isAgg=ag)(nG:y.put o v=some y')(aZ:v≠.any/\∀m,v≠.aY m):
  iI P L dst (.store T p x) ((L.bO b (some ⟨sz,vals.set j y',true⟩)).put dst .any):=.store hp hb rfl rfl hi hy (by rw[hx];exact nG) (by rw[hx,hv,hva];exact t.h) (by rw[hx];exact aZ)
end
structure cQ (q:Prop):Prop where
 h:q
theorem afR{p q:Prop}(k:q)(h:cQ q->p:=by intro cB;refine dN rfl (.cons (.pure hc) (.cons (.pure (ao.pure _)) .nil)) hSp ?_;refine iy ?_;refine fx 6 rfl rfl aG (.pure (.move _)) gu fy ?_;refine fx 7 rfl rfl aG (.pure (.extract rfl rfl (fun m h=>by cases h))) gu fy ?_;refine fx 8 rfl rfl aG (.pure (.extract rfl rfl (fun m h=>by cases h))) gu fy ?_;refine fx 9 rfl rfl aG (.pure (.extract rfl rfl (fun m h=>by cases h))) gu fy ?_;exact cB.h):p:=h ⟨k⟩
theorem gH{p q:Prop}(k:q)(h:cQ q->p:=by intro cB;refine xV ?_;refine a6 ?_;refine qO (b:=_) rfl aj ?_;exact cB.h):p:=h ⟨k⟩
theorem qK{p q:Prop}(k:q)(h:cQ q->p:=by intro cB;refine xV ?_;refine bK ?_;refine qO (b:=_) rfl aj ?_;exact cB.h):p:=h ⟨k⟩
theorem eP{p q:Prop}(k:q)(h:cQ q->p:=by intro cB;refine al rfl aBG ?_;refine bI ?_;exact cB.h):p:=h ⟨k⟩
theorem eT{p q:Prop}(k:q)(h:cQ q->p:=by intro cB;refine bn ?_;refine iy ?_;exact cB.h):p:=h ⟨k⟩
theorem agW{p q:Prop}(k:q)(h:cQ q->p:=by intro cB;refine al adh l5 ?_;refine al adh gJ ?_;refine al adh (.bin rfl rfl rfl) ?_;refine al rfl (.sR rfl ((decide_eq_true J))) ?_;refine bn ?_;refine al adh l5 ?_;exact cB.h):p:=h ⟨k⟩
theorem adw{p q:Prop}(k:q)(h:cQ q->p:=by intro cB;refine gv rfl rfl (abQ (z:=fv ([],[],0,0)) (v:=.agg [.list 6 ((x.1.take na).map ar),.list 6 ((x.1.drop na).map ar),ah (mG (lk (x.1.take na) (x.1.drop na))),ah (kV (lk (x.1.take na) (x.1.drop na)))]) Tryz.underlying43 acw rfl rfl uR rfl rfl rfl awc aj aj) ?_;refine cj rfl aMB ?_;exact cB.h):p:=h ⟨k⟩
theorem auh{p q:Prop}(k:q)(h:cQ q->p:=by intro cB;refine di 12 _ aG rfl ?_;refine eT ?_;refine di 13 _ aG rfl ?_;refine eT ?_;refine di 14 _ aG rfl ?_;refine eT ?_;exact cB.h):p:=h ⟨k⟩
theorem pa{p q:Prop}(k:q)(h:cQ q->p:=by intro cB;refine xV ?_;refine a6 ?_;refine rA (b:=_) rfl aj ?_;exact cB.h):p:=h ⟨k⟩
theorem ajt{p q:Prop}(k:q)(h:cQ q->p:=by intro cB;refine al ac2 (.move _) ?_;refine al ac2 (.move _) ?_;refine al ac2 (.qt (n:=((jj:Nat):Int)) (r:=.agg [.list 6 ([s].map ar),.list 6 ([r].map ar),ah (cls.getD jj default).2.2.1,ah (cls.getD jj default).2.2.2]) rfl Tryz.underlying43 uR rfl J hcj rfl) ?_;refine al ac2 l5 ?_;refine al ac2 gJ ?_;exact cB.h):p:=h ⟨k⟩
theorem acX{p q:Prop}(k:q)(h:cQ q->p:=by intro cB;refine ff ?_;refine rA (b:=_) rfl (rfl) ?_;refine bI ?_;refine cO (au.kill _ 6) ?_;exact cB.h):p:=h ⟨k⟩
theorem apP{p q:Prop}(k:q)(h:cQ q->p:=by intro cB;refine ub 0 rfl rfl rfl (gC l _) (.cons .ptr (.cons (.dH (.pure rfl)) .nil)) .ptr (zI l (d3K l k) 3 J J J J) rfl (gC l _) rfl ?_;refine iy ?_;refine fx 3 rfl rfl aG (.pure (.bin rfl rfl (aC5 aj))) gu fy ?_;refine fx 4 rfl rfl aG (.pure (.bin rfl rfl (w6 J J))) gu fy ?_;exact cB.h):p:=h ⟨k⟩
theorem wq{p q:Prop}(k:q)(h:cQ q->p:=by intro cB;refine xV ?_;refine bK ?_;refine rA (b:=_) rfl aj ?_;exact cB.h):p:=h ⟨k⟩
theorem aLS{p q:Prop}(k:q)(h:cQ q->p:=by intro cB;refine al nQ gJ ?_;refine dN nQ (.cons eu .nil) (vE) ?_;refine al nQ (.bin rfl rfl rfl) ?_;refine al rfl (.sR rfl ((rfl))) ?_;refine aK ?_;refine eG (x:=bL (decide (cq wd>=0))) rfl ?_;exact cB.h):p:=h ⟨k⟩
theorem aNT{p q:Prop}(k:q)(h:cQ q->p:=by intro cB;refine al rfl (.sR rfl ((decide_eq_true J))) ?_;refine bn ?_;refine agW ?_;refine al adh gJ ?_;refine dN adh (.cons eu .nil) (qY) ?_;refine al rfl (.sR rfl ((decide_eq_true J))) ?_;exact cB.h):p:=h ⟨k⟩
theorem aAZ{p q:Prop}(k:q)(h:cQ q->p:=by intro cB;refine afn (((au.cx (t:=13) (b:=13) rfl rfl cs rfl dZ).trans (au.cx (t:=15) (b:=15) rfl rfl aBb at4 axS)).trans (au.cx (t:=16) (b:=16) rfl rfl aBb at4 axS)) ?_;refine aJ ?_;refine fx 0 rfl rfl aG (.pure (.kQ rfl dZ rfl rfl)) (fun b=>LV.oH b _ dZ) fy ?_;refine fx 2 rfl rfl aG (.pure (.kQ rfl (ao.pure _) (ao.aq _) (ao.isAgg _))) (fun b=>kT _ b) fy ?_;refine fx 3 rfl rfl aG (.pure (.kQ rfl (ao.pure _) (ao.aq _) (ao.isAgg _))) (fun b=>kT _ b) fy ?_;refine fx 4 rfl rfl aG (.pure (.move _)) gu fy ?_;exact cB.h):p:=h ⟨k⟩
theorem asN{p q:Prop}(k:q)(h:cQ q->p:=by intro cB;refine dj ?_;refine iS (au.kill _ 9) ?_;refine dy (fun(i:Nat) L=>(mS L [(3,⟨3,[.agg [ah d1,.list 3 (k1.map ae),.list 12 (bg.map aA)]],true⟩),(4,⟨3,[.agg [ah d2,.list 3 (k2.map ae),.list 12 (a9.map aA)]],true⟩),(5,⟨5,[.agg [ah d,ah w,ae wd]],true⟩)] [(29,ah i),(28,ah bg.length),(27,.list 12 (bg.map aA)),(23,ah 0),(22,.agg [.agg [ah d1,.list 3 (k1.map ae),.list 12 (bg.map aA)],.agg [ah d2,.list 3 (k2.map ae),.list 12 (a9.map aA)]]),(5,.aB 5 5 0 0),(4,.aB 4 3 0 0),(3,.aB 3 3 0 0)])) (fun i=>i<=bg.length) (fun i=>bg.length-i) 0 (Nat.zero_le _) ?_;exact cB.h):p:=h ⟨k⟩
theorem jc{p q:Prop}(k:q)(h:cQ q->p:=by intro cB;refine al rfl aMO ?_;exact cB.h):p:=h ⟨k⟩
theorem ac4{p q:Prop}(k:q)(h:cQ q->p:=by intro cB;refine di 5 _ aG rfl ?_;refine eT ?_;refine di 6 _ aG rfl ?_;refine eT ?_;exact cB.h):p:=h ⟨k⟩
theorem ajz{p q:Prop}(k:q)(h:cQ q->p:=by intro cB;refine bM ?_;refine al alG (.move _) ?_;refine al alG xt ?_;refine al alG gJ ?_;refine al alG (.bin rfl rfl rfl) ?_;refine al rfl (.sR rfl (aj)) ?_;exact cB.h):p:=h ⟨k⟩
theorem aCt{p q:Prop}(k:q)(h:cQ q->p:=by intro cB;refine di 6 _ aG rfl ?_;refine tj (ahz (p:=⟨(d3V l k).x,(d3V l k).y,0⟩) rfl rfl) ?_;refine iy ?_;refine di 7 _ aG rfl ?_;refine eT ?_;refine pb aG ?_;exact cB.h):p:=h ⟨k⟩
theorem agB{p q:Prop}(k:q)(h:cQ q->p:=by intro cB;refine di 7 _ aG rfl ?_;refine eT ?_;refine di 8 _ aG rfl ?_;refine eT ?_;refine di 9 _ aG rfl ?_;refine eT ?_;exact cB.h):p:=h ⟨k⟩
theorem atI{p q:Prop}(k:q)(h:cQ q->p:=by intro cB;refine bI ?_;refine al (ib (v:=false) rfl rfl ((decide_eq_false (vH J).2)) rfl) l5 ?_;refine al (ib (v:=false) rfl rfl ((decide_eq_false (vH J).2)) rfl) gJ ?_;refine al (ib (v:=false) rfl rfl ((decide_eq_false (vH J).2)) rfl) zj ?_;refine al (ib (v:=false) rfl rfl ((decide_eq_false (vH J).2)) rfl) (.bin rfl rfl rfl) ?_;refine al (ib (v:=true) rfl rfl (ab5) rfl) (.r7 rfl ((decide_eq_false (vH J).2))) ?_;exact cB.h):p:=h ⟨k⟩
theorem abZ{p q:Prop}(k:q)(h:cQ q->p:=by intro cB;refine aNY rfl rfl (fun om h=>by cases h;exact⟨_,_,_,_,_,rfl,rfl⟩) ?_;exact cB.h):p:=h ⟨k⟩
theorem adH{p q:Prop}(k:q)(h:cQ q->p:=by intro cB;refine bf (aki _) ?_;refine cp aC (aoG _ _ (dX _) (dX _) J J) ?_;exact cB.h):p:=h ⟨k⟩
theorem afd{p q:Prop}(k:q)(h:cQ q->p:=by intro cB;refine di 5 _ aG rfl ?_;refine afR ?_;refine auh ?_;refine pb aG ?_;refine bn ?_;exact cB.h):p:=h ⟨k⟩
theorem lG{p q:Prop}(k:q)(h:cQ q->p:=by intro cB;refine al rfl aBG ?_;exact cB.h):p:=h ⟨k⟩
theorem nL{p q:Prop}(k:q)(h:cQ q->p:=by intro cB;refine bn ?_;refine eP ?_;exact cB.h):p:=h ⟨k⟩
theorem nR{p q:Prop}(k:q)(h:cQ q->p:=by intro cB;refine aK ?_;refine gH ?_;exact cB.h):p:=h ⟨k⟩
theorem aj4{p q:Prop}(k:q)(h:cQ q->p:=by intro cB;refine al adh gJ ?_;refine al adh (.bin rfl rfl rfl) ?_;refine aNT ?_;refine bn ?_;refine al nQ l5 ?_;refine aLS ?_;exact cB.h):p:=h ⟨k⟩
theorem adE{p q:Prop}(k:q)(h:cQ q->p:=by intro cB;refine al oN (.not rfl) ?_;refine al rfl (.r7 rfl ((rfl))) ?_;exact cB.h):p:=h ⟨k⟩
theorem ad0{p q:Prop}(k:q)(h:cQ q->p:=by intro cB;refine qK ?_;refine aW ?_;refine gE 11 [9] aG ?_;exact cB.h):p:=h ⟨k⟩
theorem aAj{p q:Prop}(k:q)(h:cQ q->p:=by intro cB;refine b7 ?_;refine rA (b:=_) rfl (rfl) ?_;refine bH ?_;refine al rfl asl ?_;refine gv rfl rfl (abQ (z:=.agg [.v (.int .i64 0),.v (.slice none 0 0),.v (.slice none 0 0)]) (v:=.agg [ah d,.list 3 (KZ.map ae),.list 12 (pZ.map aA)]) Tryz.underlying78 Z28 rfl rfl fo rfl rfl rfl hz aj aj) ?_;refine cj rfl aNR ?_;exact cB.h):p:=h ⟨k⟩
theorem aBX{p q:Prop}(k:q)(h:cQ q->p:=by intro cB;refine al oN (.move _) ?_;refine al oN (.move _) ?_;refine al oN (.qt (n:=((jj:Nat):Int)) (r:=.agg [.list 6 ([s].map ar),.list 6 ([r].map ar),ah (cls.getD jj default).2.2.1,ah (cls.getD jj default).2.2.2]) rfl Tryz.underlying43 uR rfl J hcj rfl) ?_;refine al oN l5 ?_;refine al oN gJ ?_;exact cB.h):p:=h ⟨k⟩
theorem awn{p q:Prop}(k:q)(h:cQ q->p:=by intro cB;refine aL Tryz.func80 (ht:=(iz (bj.pure _) rfl)) ?_;refine aN ((apa s.1 t.1 J:an Tryz.prog 158 [ae s.1,ae t.1] (ae (fN s.1 t.1)))) ?_;refine aN ((aqY s.2 t.2 J:an Tryz.prog 157 [ae s.2,ae t.2] (ae (gg s.2 t.2)))) ?_;refine aN (pS (fN s.1 t.1) (gg s.2 t.2) J) ?_;refine bI ?_;exact cB.h):p:=h ⟨k⟩
theorem aeL{p q:Prop}(k:q)(h:cQ q->p:=by intro cB;refine bf (ade _) ?_;refine cp aC (alb _ _ J J) ?_;exact cB.h):p:=h ⟨k⟩
theorem qM{p q:Prop}(k:q)(h:cQ q->p:=by intro cB;refine bN ?_;refine qK ?_;exact cB.h):p:=h ⟨k⟩
theorem aAd{p q:Prop}(k:q)(h:cQ q->p:=by intro cB;refine al rfl (.fa (b:=15) (sz:=4) (i:=0) (o:=0) (x:=lh 1 x) (r:=.list 6 ((x.1.take 1).map ar)) (n:=1) (ag:=false) rfl rfl rfl rfl rfl rfl T51) ?_;refine al rfl (.ahP (n:=0) (l:=x.1.take 1) bj rfl Tryz.underlying51 lF rfl aj (Int.ofNat_lt.2 lr)) ?_;refine al rfl (.aDg rfl aiO aj) ?_;exact cB.h):p:=h ⟨k⟩
theorem axk{p q:Prop}(k:q)(h:cQ q->p:=by intro cB;refine al rfl (.fa (b:=15) (sz:=4) (i:=0) (o:=1) (x:=lh 1 x) (r:=.list 6 ((x.1.drop 1).map ar)) (n:=1) (ag:=false) rfl rfl rfl rfl rfl rfl T51) ?_;refine al rfl (.ahP (n:=0) (l:=x.1.drop 1) bj rfl Tryz.underlying51 lF rfl aj (Int.ofNat_lt.2 oK)) ?_;refine al rfl (.aDg rfl aiO aj) ?_;exact cB.h):p:=h ⟨k⟩
theorem asb{p q:Prop}(k:q)(h:cQ q->p:=by intro cB;refine bM ?_;refine gv rfl rfl (.nr (n:=0) (m:=p.length) ml ml om om om) ?_;refine bG ?_;refine dy (fun(k:Nat) L=>(mS L [(8,⟨3,(p.take k).map ae,true⟩)] [(11,ah k),(10,ah p.length),(9,.list 3 (p.map ae)),(3,.ref 8 3 0 k)])) (fun k=>k<=p.length) (fun k=>p.length-k) 0 (Nat.zero_le _) ?_;exact cB.h):p:=h ⟨k⟩
theorem pg{p q:Prop}(k:q)(h:cQ q->p:=by intro cB;refine al rfl aIW ?_;exact cB.h):p:=h ⟨k⟩
theorem ap3{p q:Prop}(k:q)(h:cQ q->p:=by intro cB;refine aW ?_;refine dN rfl (.cons (.pure (aaA x)) .nil) (aJl x n D hlx bV J hn9 hdx J (hL.tm x nT) 1000 aj vv) ?_;refine ff ?_;exact cB.h):p:=h ⟨k⟩
theorem vM{p q:Prop}(k:q)(h:cQ q->p:=by intro cB;refine rA (b:=_) rfl (rfl) ?_;exact cB.h):p:=h ⟨k⟩
theorem agQ{p q:Prop}(k:q)(h:cQ q->p:=by intro cB;refine al nQ (.bin rfl rfl rfl) ?_;refine al rfl (.sR rfl ((rfl))) ?_;exact cB.h):p:=h ⟨k⟩
theorem arH{p q:Prop}(k:q)(h:cQ q->p:=by intro cB;refine gE 11 [9] aG ?_;refine aN (akF a.x b.x R hR a1 y1 iw) ?_;refine acX ?_;refine nR ?_;refine bN ?_;refine gE 11 [9] aG ?_;exact cB.h):p:=h ⟨k⟩
theorem pJ{p q:Prop}(k:q)(h:cQ q->p:=by intro cB;refine al rfl asl ?_;exact cB.h):p:=h ⟨k⟩
theorem arp{p q:Prop}(k:q)(h:cQ q->p:=by intro cB;refine al rfl (.kQ rfl o7 rfl rfl) ?_;refine bn ?_;refine al rfl (.bin rfl rfl (yM (c:=(et hs hs.length)-A.length) J J)) ?_;exact cB.h):p:=h ⟨k⟩
theorem vD{p q:Prop}(k:q)(h:cQ q->p:=by intro cB;refine cO (au.kill _ 7) ?_;exact cB.h):p:=h ⟨k⟩
theorem afa{p q:Prop}(k:q)(h:cQ q->p:=by intro cB;refine ff ?_;refine qO (b:=_) rfl (rfl) ?_;refine bN ?_;exact cB.h):p:=h ⟨k⟩
theorem apn{p q:Prop}(k:q)(h:cQ q->p:=by intro cB;refine di 5 _ aG rfl ?_;refine cp cr (nZ (1+(gZ l (d3K l k) 3).tmod 3) J J) ?_;refine iy ?_;refine aCt ?_;refine bc ?_;exact cB.h):p:=h ⟨k⟩
theorem agi{p q:Prop}(k:q)(h:cQ q->p:=by intro cB;refine eT ?_;refine auh ?_;refine pb aG ?_;refine bn ?_;exact cB.h):p:=h ⟨k⟩
theorem aoD{p q:Prop}(k:q)(h:cQ q->p:=by intro cB;refine a6 ?_;refine cO ((((au.kill _ 11).trans (au.kill _ 78)).trans (au.kill _ 94)).trans (au.kill _ 111)) ?_;refine nL ?_;exact cB.h):p:=h ⟨k⟩
theorem ahZ{p q:Prop}(k:q)(h:cQ q->p:=by intro cB;refine gv rfl rfl (.nr (n:=p.length) (m:=p.length) ml ml om om om) ?_;exact cB.h):p:=h ⟨k⟩
theorem alu{p q:Prop}(k:q)(h:cQ q->p:=by intro cB;refine bG ?_;refine al rfl amb ?_;refine dN rfl (.cons (.pure xo) .nil) qY ?_;exact cB.h):p:=h ⟨k⟩
theorem aqg{p q:Prop}(k:q)(h:cQ q->p:=by intro cB;refine aL Tryz.func41 ?_;refine ff ?_;refine ad0 ?_;refine aN (aj2 a.x b.x R hR a1 y1 iw) ?_;refine acX ?_;refine aW ?_;exact cB.h):p:=h ⟨k⟩
theorem atD{p q:Prop}(k:q)(h:cQ q->p:=by intro cB;refine gv rfl rfl (abQ (z:=.agg [.v (.int .i64 0),.v (.slice none 0 0),.v (.slice none 0 0)]) (v:=.agg [ah d,.list 3 (KA.map ae),.list 12 (pA.map aA)]) Tryz.underlying78 Z28 rfl rfl fo rfl rfl rfl ha aj aj) ?_;refine iy ?_;exact cB.h):p:=h ⟨k⟩
theorem gJ{P:Program}{H:cd}{ρ:Operand->LV}{T:TypeId}{p:Operand}{x:LV}(h:aM P H ρ (.load T p) x:=by first|(apply aM.ldB;exact rfl)|exact .aLI rfl rfl rfl TI.h|exact .aN8 rfl rfl rfl TI.h|(apply aM.ldE;exact rfl;exact rfl;exact om)|exact .aJL rfl rfl rfl TI.h|exact .aG2 rfl rfl rfl TI.h|exact .aMr rfl rfl rfl TI.h|exact .aMP rfl rfl rfl TI.h|exact .aNU rfl rfl rfl TI.h|exact .fa rfl rfl rfl rfl rfl rfl TI.h|(apply aM.ldp;exact rfl;exact rfl;exact rfl;exact cs;exact atp)|(apply aM.kQ;exact rfl;exact pu;exact cs;exact cs)):aM P H ρ (.load T p) x:=h
section
variable {P:Program} {H:cd} {ρ:Operand->LV} {T U:TypeId} {x y:Operand}
theorem aM.aI{a b:Int}(hx:ρ x=.v (.int .i64 a))(hy:ρ y=.v (.int .i64 b))(h1:-9223372036854775808<=a+b)(h2:a+b<=9223372036854775807):aM P H ρ (.binOp .add T x y U) (.v (.int .i64 (a+b))):=.bin hx hy (w6 h1 h2)
theorem aM.sI{a b:Int}(hx:ρ x=.v (.int .i64 a))(hy:ρ y=.v (.int .i64 b))(h1:-9223372036854775808<=a-b)(h2:a-b<=9223372036854775807):aM P H ρ (.binOp .sub T x y U) (.v (.int .i64 (a-b))):=.bin hx hy (ab1 h1 h2)
theorem aM.mI{a b:Int}(hx:ρ x=.v (.int .i64 a))(hy:ρ y=.v (.int .i64 b))(h1:-9223372036854775808<=a*b)(h2:a*b<=9223372036854775807):aM P H ρ (.binOp .mul T x y U) (.v (.int .i64 (a*b))):=.bin hx hy (ahM h1 h2)
theorem aM.aU{a b:Nat}(hx:ρ x=.v (.int .u64 (a:Nat)))(hy:ρ y=.v (.int .u64 (b:Nat)))(h:a+b<18446744073709551616):aM P H ρ (.binOp .add T x y U) (.v (.int .u64 ((a+b:Nat):Int))):=.bin hx hy (awY h)
theorem aM.mU{a b:Nat}(hx:ρ x=.v (.int .u64 (a:Nat)))(hy:ρ y=.v (.int .u64 (b:Nat)))(h:a*b<18446744073709551616):aM P H ρ (.binOp .mul T x y U) (.v (.int .u64 ((a*b:Nat):Int))):=.bin hx hy (aeT h)
theorem aM.sU{a b:Nat}(hx:ρ x=.v (.int .u64 (a:Nat)))(hy:ρ y=.v (.int .u64 (b:Nat)))(h:b<=a)(h1:a<18446744073709551616):aM P H ρ (.binOp .sub T x y U) (.v (.int .u64 ((a-b:Nat):Int))):=.bin hx hy (axD h h1)
theorem aM.rU{a b:Nat}(hx:ρ x=.v (.int .u64 (a:Nat)))(hy:ρ y=.v (.int .u64 (b:Nat)))(h:0<b):aM P H ρ (.binOp .rem T x y U) (.v (.int .u64 ((a%b:Nat):Int))):=.bin hx hy (ao1 h)
theorem aM.oU{a b:Nat}(hx:ρ x=.v (.int .u64 ((a*4294967296:Nat):Int)))(hy:ρ y=.v (.int .u64 (b:Nat)))(h:b<4294967296)(h1:a<4294967296):aM P H ρ (.binOp .or T x y U) (.v (.int .u64 ((a*4294967296+b:Nat):Int))):=.bin hx hy (orU h h1)
theorem aM.hl{a:Nat}{k:IntKind}(hx:ρ x=.v (.int .u64 (a:Nat)))(hy:ρ y=.v (.int k 32))(h:a*4294967296<18446744073709551616):aM P H ρ (.binOp .shl T x y U) (.v (.int .u64 ((a*4294967296:Nat):Int))):=.sh hx hy (ag6 h)
theorem aM.hr{a:Nat}{k:IntKind}(hx:ρ x=.v (.int .u64 (a:Nat)))(hy:ρ y=.v (.int k 32)):aM P H ρ (.binOp .shr T x y U) (.v (.int .u64 ((a/4294967296:Nat):Int))):=.sh hx hy aOo
theorem aM.aIo{a:Nat}{k:IntKind}(hx:ρ x=.v (.int .u64 (a:Nat)))(hy:ρ y=.v (.int k 63)):aM P H ρ (.binOp .shr T x y U) (.v (.int .u64 ((a/9223372036854775808:Nat):Int))):=.sh hx hy aL2
end
theorem biA{P:Program}{H:cd}{ρ:Operand->LV}{o:BinOp}{T U:TypeId}{p y:Operand}{x:LV}(h:aM P H ρ (.binOp o T p y U) x:=by first|(apply aM.cmp;exact rfl;exact rfl;exact rfl;exact rfl)|(apply aM.aI;exact rfl;exact rfl;exact om;exact om)|(apply aM.sI;exact rfl;exact rfl;exact om;exact om)|(apply aM.mI;exact rfl;exact rfl;exact om;exact om)|(apply aM.aU;exact rfl;exact rfl;exact om)|(apply aM.mU;exact rfl;exact rfl;exact om)|(apply aM.sU;exact rfl;exact rfl;exact om;exact om)|(apply aM.qU;exact rfl;exact rfl;exact om;exact om)|(apply aM.rU;exact rfl;exact rfl;exact om)|(apply aM.oU;exact rfl;exact rfl;exact om;exact om)|(apply aM.hl;exact rfl;exact rfl;exact om)|(apply aM.hr;exact rfl;exact rfl)|(apply aM.aIo;exact rfl;exact rfl)|(apply aM.beq;exact rfl;exact rfl;exact UN.h)|(apply aM.bne;exact rfl;exact rfl;exact UN.h)):aM P H ρ (.binOp o T p y U) x:=h
theorem zj{P:Program}{H:cd}{ρ:Operand->LV}{b:Builtin}{xs:Array Operand}{as:Array TypeId}{x:LV}(h:aM P H ρ (.call ⟨.builtin b,xs,as⟩) x:=by first|exact .aDA rfl rfl UN.h|exact .abC rfl rfl UN.h|exact .acx rfl rfl UN.h|exact .acD rfl rfl UN.h|exact .ags rfl rfl UN.h|exact .ab9 rfl rfl UN.h|exact .min2 rfl rfl|exact .max2 rfl rfl):aM P H ρ (.call ⟨.builtin b,xs,as⟩) x:=h
theorem srA{P:Program}{L L':St}{dst:Option Tmp}{T:TypeId}{p x:Operand}(h:iI P L dst (.store T p x) L':=by first|exact .aGw rfl rfl rfl rfl TI.h|exact .aEQ rfl rfl rfl TI.h|exact .aOr rfl rfl rfl TI.h|(apply iI.stE;exact rfl;exact rfl;exact rfl;exact om)|exact .store rfl rfl rfl rfl rfl rfl rfl TI.h ni|(apply iI.lC;exact rfl;exact rfl;exact rfl;(first|exact(rfl:_=ae _)|exact(rfl:_=aR _)|exact(rfl:_=aA _)|exact(rfl:_=ar _)|exact(rfl:_=LV.agg _)|exact rfl);exact cs;exact cs;exact cs;exact ptp;exact ni)):iI P L dst (.store T p x) L':=h
theorem cvA{P:Program}{H:cd}{ρ:Operand->LV}{S D:TypeId}{p:Operand}{x:LV}(h:aM P H ρ (.convert S D p) x:=by first|exact .aDs UN.h UN.h rfl|(apply aM.alK;exact UN.h;exact UN.h;exact rfl;exact om)|(apply aM.cvI;exact UN.h;exact UN.h;exact rfl;exact om;exact om)|exact .conv UN.h UN.h rfl):aM P H ρ (.convert S D p) x:=h
theorem anU{P:Program}{T:TypeId}{l:List (Nat×Bool)}{fs:List LV}(h:mP P T l)(e:fs.map lay=l):mP P T (fs.map lay):=e▸h
theorem aAl{P:Program}{H:cd}{ρ:Operand->LV}{T:TypeId}{p i:Operand}{x:LV}(h:aM P H ρ (.index T p i) x:=by(apply aM.ixa;exact rfl;exact rfl;exact om;exact rfl;exact pu;exact cs)):aM P H ρ (.index T p i) x:=h
theorem l5{P:Program}{H:cd}{ρ:Operand->LV}{T:TypeId}{p:Operand}{k:Nat}{x:LV}(h:aM P H ρ (.fieldAddr T p k) x:=by first|exact .acW rfl SI.h aj|exact .aax rfl SI.h rfl|(refine .aax rfl (anU SI.h cs) rfl)):aM P H ρ (.fieldAddr T p k) x:=h
theorem xt{P:Program}{H:cd}{ρ:Operand->LV}{T:TypeId}{p i:Operand}{x:LV}(h:aM P H ρ (.indexAddr T p i) x:=by first|(apply aM.ixL;exact rfl;exact rfl;exact om;exact om)|(apply aM.ixR;exact rfl;exact rfl;exact om;exact om)|(apply aM.ixe;exact rfl;exact rfl;exact om;exact om)|(apply aM.ixb;exact rfl;exact rfl;exact om;exact rfl;exact cs)):aM P H ρ (.indexAddr T p i) x:=h
section
variable {P:Program} {dr:Bool} {ops:Array Oper} {rest:List Oper} {L L':St} {K:St->Prop} {dst:Option Tmp} {d:Nat} {ty:TypeId} {pos:String} {af:Array Edge} {j:Nat} {w:Bool} {r:LV} {bk:aV}
theorem aDE{T:TypeId}{p:Operand}(h:aM P L.heap L.ev (.load T p) r)(kk:opsL P dr ops rest (L.put dst r) K):opsL P dr ops (⟨dst,(.load T p),ty,pos,af,none⟩::rest) L K:=al rfl h kk
theorem aHS{T:TypeId}{p:Operand}(hg:eg ops L ⟨dst,(.load T p),ty,pos,af,some (j,w)⟩ true)(h:aM P L.heap L.ev (.load T p) r)(kk:opsL P dr ops rest (L.put dst r) K):opsL P dr ops (⟨dst,(.load T p),ty,pos,af,some (j,w)⟩::rest) L K:=al hg h kk
theorem aNd{o:BinOp}{T U:TypeId}{p y:Operand}(h:aM P L.heap L.ev (.binOp o T p y U) r)(kk:opsL P dr ops rest (L.put dst r) K):opsL P dr ops (⟨dst,(.binOp o T p y U),ty,pos,af,none⟩::rest) L K:=al rfl h kk
theorem aEm{o:BinOp}{T U:TypeId}{p y:Operand}(hg:eg ops L ⟨dst,(.binOp o T p y U),ty,pos,af,some (j,w)⟩ true)(h:aM P L.heap L.ev (.binOp o T p y U) r)(kk:opsL P dr ops rest (L.put dst r) K):opsL P dr ops (⟨dst,(.binOp o T p y U),ty,pos,af,some (j,w)⟩::rest) L K:=al hg h kk
theorem aIn{b:Builtin}{xs:Array Operand}{as:Array TypeId}(h:aM P L.heap L.ev (.call ⟨.builtin b,xs,as⟩) r)(kk:opsL P dr ops rest (L.put dst r) K):opsL P dr ops (⟨dst,(.call ⟨.builtin b,xs,as⟩),ty,pos,af,none⟩::rest) L K:=al rfl h kk
theorem aOR{b:Builtin}{xs:Array Operand}{as:Array TypeId}(hg:eg ops L ⟨dst,(.call ⟨.builtin b,xs,as⟩),ty,pos,af,some (j,w)⟩ true)(h:aM P L.heap L.ev (.call ⟨.builtin b,xs,as⟩) r)(kk:opsL P dr ops rest (L.put dst r) K):opsL P dr ops (⟨dst,(.call ⟨.builtin b,xs,as⟩),ty,pos,af,some (j,w)⟩::rest) L K:=al hg h kk
theorem aIu{T:TypeId}{p:Operand}{k:Nat}(h:aM P L.heap L.ev (.fieldAddr T p k) r)(kk:opsL P dr ops rest (L.put dst r) K):opsL P dr ops (⟨dst,(.fieldAddr T p k),ty,pos,af,none⟩::rest) L K:=al rfl h kk
theorem aOM{T:TypeId}{p:Operand}{k:Nat}(hg:eg ops L ⟨dst,(.fieldAddr T p k),ty,pos,af,some (j,w)⟩ true)(h:aM P L.heap L.ev (.fieldAddr T p k) r)(kk:opsL P dr ops rest (L.put dst r) K):opsL P dr ops (⟨dst,(.fieldAddr T p k),ty,pos,af,some (j,w)⟩::rest) L K:=al hg h kk
theorem aLb{T:TypeId}{p y:Operand}(h:aM P L.heap L.ev (.index T p y) r)(kk:opsL P dr ops rest (L.put dst r) K):opsL P dr ops (⟨dst,(.index T p y),ty,pos,af,none⟩::rest) L K:=al rfl h kk
theorem aEd{T:TypeId}{p y:Operand}(hg:eg ops L ⟨dst,(.index T p y),ty,pos,af,some (j,w)⟩ true)(h:aM P L.heap L.ev (.index T p y) r)(kk:opsL P dr ops rest (L.put dst r) K):opsL P dr ops (⟨dst,(.index T p y),ty,pos,af,some (j,w)⟩::rest) L K:=al hg h kk
theorem aJN{T:TypeId}{p y:Operand}(h:aM P L.heap L.ev (.indexAddr T p y) r)(kk:opsL P dr ops rest (L.put dst r) K):opsL P dr ops (⟨dst,(.indexAddr T p y),ty,pos,af,none⟩::rest) L K:=al rfl h kk
theorem aNc{T:TypeId}{p y:Operand}(hg:eg ops L ⟨dst,(.indexAddr T p y),ty,pos,af,some (j,w)⟩ true)(h:aM P L.heap L.ev (.indexAddr T p y) r)(kk:opsL P dr ops rest (L.put dst r) K):opsL P dr ops (⟨dst,(.indexAddr T p y),ty,pos,af,some (j,w)⟩::rest) L K:=al hg h kk
theorem aEU{p:Operand}{k:Nat}(h:aM P L.heap L.ev (.extract p k) r)(kk:opsL P dr ops rest (L.put dst r) K):opsL P dr ops (⟨dst,(.extract p k),ty,pos,af,none⟩::rest) L K:=al rfl h kk
theorem aOn{p:Operand}{k:Nat}(hg:eg ops L ⟨dst,(.extract p k),ty,pos,af,some (j,w)⟩ true)(h:aM P L.heap L.ev (.extract p k) r)(kk:opsL P dr ops rest (L.put dst r) K):opsL P dr ops (⟨dst,(.extract p k),ty,pos,af,some (j,w)⟩::rest) L K:=al hg h kk
theorem aEa{p y z:Operand}(h:aM P L.heap L.ev (.pick p y z) r)(kk:opsL P dr ops rest (L.put dst r) K):opsL P dr ops (⟨dst,(.pick p y z),ty,pos,af,none⟩::rest) L K:=al rfl h kk
theorem aFK{p y z:Operand}(hg:eg ops L ⟨dst,(.pick p y z),ty,pos,af,some (j,w)⟩ true)(h:aM P L.heap L.ev (.pick p y z) r)(kk:opsL P dr ops rest (L.put dst r) K):opsL P dr ops (⟨dst,(.pick p y z),ty,pos,af,some (j,w)⟩::rest) L K:=al hg h kk
theorem aJa{T U:TypeId}{p:Operand}(h:aM P L.heap L.ev (.convert T U p) r)(kk:opsL P dr ops rest (L.put dst r) K):opsL P dr ops (⟨dst,(.convert T U p),ty,pos,af,none⟩::rest) L K:=al rfl h kk
theorem aGP{T U:TypeId}{p:Operand}(hg:eg ops L ⟨dst,(.convert T U p),ty,pos,af,some (j,w)⟩ true)(h:aM P L.heap L.ev (.convert T U p) r)(kk:opsL P dr ops rest (L.put dst r) K):opsL P dr ops (⟨dst,(.convert T U p),ty,pos,af,some (j,w)⟩::rest) L K:=al hg h kk
theorem aHM{u:UnOp}{T:TypeId}{p:Operand}(h:aM P L.heap L.ev (.unOp u T p) r)(kk:opsL P dr ops rest (L.put dst r) K):opsL P dr ops (⟨dst,(.unOp u T p),ty,pos,af,none⟩::rest) L K:=al rfl h kk
theorem aDD{u:UnOp}{T:TypeId}{p:Operand}(hg:eg ops L ⟨dst,(.unOp u T p),ty,pos,af,some (j,w)⟩ true)(h:aM P L.heap L.ev (.unOp u T p) r)(kk:opsL P dr ops rest (L.put dst r) K):opsL P dr ops (⟨dst,(.unOp u T p),ty,pos,af,some (j,w)⟩::rest) L K:=al hg h kk
theorem aKT{T:TypeId}{p:Operand}{k:Nat}(h:aM P L.heap L.ev (.field T p k) r)(kk:opsL P dr ops rest (L.put dst r) K):opsL P dr ops (⟨dst,(.field T p k),ty,pos,af,none⟩::rest) L K:=al rfl h kk
theorem aHL{T:TypeId}{p:Operand}{k:Nat}(hg:eg ops L ⟨dst,(.field T p k),ty,pos,af,some (j,w)⟩ true)(h:aM P L.heap L.ev (.field T p k) r)(kk:opsL P dr ops rest (L.put dst r) K):opsL P dr ops (⟨dst,(.field T p k),ty,pos,af,some (j,w)⟩::rest) L K:=al hg h kk
theorem aGS{p:Operand}(h:aM P L.heap L.ev (.nilCheck p) r)(kk:opsL P dr ops rest (L.put dst r) K):opsL P dr ops (⟨dst,(.nilCheck p),ty,pos,af,none⟩::rest) L K:=al rfl h kk
theorem aG3{p:Operand}(hg:eg ops L ⟨dst,(.nilCheck p),ty,pos,af,some (j,w)⟩ true)(h:aM P L.heap L.ev (.nilCheck p) r)(kk:opsL P dr ops rest (L.put dst r) K):opsL P dr ops (⟨dst,(.nilCheck p),ty,pos,af,some (j,w)⟩::rest) L K:=al hg h kk
theorem tj{T:TypeId}{ps:Array (Nat×Operand)}(h:aM P L.heap L.ev (.build T ps) r)(kk:opsL P dr ops rest (L.put dst r) K):opsL P dr ops (⟨dst,(.build T ps),ty,pos,af,none⟩::rest) L K:=al rfl h kk
theorem aMF{T:TypeId}{ps:Array (Nat×Operand)}(hg:eg ops L ⟨dst,(.build T ps),ty,pos,af,some (j,w)⟩ true)(h:aM P L.heap L.ev (.build T ps) r)(kk:opsL P dr ops rest (L.put dst r) K):opsL P dr ops (⟨dst,(.build T ps),ty,pos,af,some (j,w)⟩::rest) L K:=al hg h kk
theorem aMf{p:Operand}(hg:eg ops L ⟨dst,(.move p),ty,pos,af,some (j,w)⟩ true)(h:aM P L.heap L.ev (.move p) r)(kk:opsL P dr ops rest (L.put dst r) K):opsL P dr ops (⟨dst,(.move p),ty,pos,af,some (j,w)⟩::rest) L K:=al hg h kk
theorem aOU{p:Operand}(hg:eg ops L ⟨dst,(.assign p),ty,pos,af,some (j,w)⟩ true)(h:aM P L.heap L.ev (.assign p) r)(kk:opsL P dr ops rest (L.put dst r) K):opsL P dr ops (⟨dst,(.assign p),ty,pos,af,some (j,w)⟩::rest) L K:=al hg h kk
theorem aIA{T:TypeId}{p:Operand}(hd:L.heap d=none)(h:dV P L.ev d (.box T p) r bk)(kk:opsL P dr ops rest ((L.bO d (some bk)).put (some d) r) K):opsL P dr ops (⟨some d,(.box T p),ty,pos,af,none⟩::rest) L K:=gv rfl hd h kk
theorem aG4{T:TypeId}{p:Operand}(hg:eg ops L ⟨some d,(.box T p),ty,pos,af,some (j,w)⟩ true)(hd:L.heap d=none)(h:dV P L.ev d (.box T p) r bk)(kk:opsL P dr ops rest ((L.bO d (some bk)).put (some d) r) K):opsL P dr ops (⟨some d,(.box T p),ty,pos,af,some (j,w)⟩::rest) L K:=gv hg hd h kk
theorem aMs{T:TypeId}(hd:L.heap d=none)(h:dV P L.ev d (.alloc T) r bk)(kk:opsL P dr ops rest ((L.bO d (some bk)).put (some d) r) K):opsL P dr ops (⟨some d,(.alloc T),ty,pos,af,none⟩::rest) L K:=gv rfl hd h kk
theorem aEz{T:TypeId}(hg:eg ops L ⟨some d,(.alloc T),ty,pos,af,some (j,w)⟩ true)(hd:L.heap d=none)(h:dV P L.ev d (.alloc T) r bk)(kk:opsL P dr ops rest ((L.bO d (some bk)).put (some d) r) K):opsL P dr ops (⟨some d,(.alloc T),ty,pos,af,some (j,w)⟩::rest) L K:=gv hg hd h kk
theorem aNt{T:TypeId}{n:Nat}{ps:Array (Nat×Operand)}(hd:L.heap d=none)(h:dV P L.ev d (.buildSlice T n ps) r bk)(kk:opsL P dr ops rest ((L.bO d (some bk)).put (some d) r) K):opsL P dr ops (⟨some d,(.buildSlice T n ps),ty,pos,af,none⟩::rest) L K:=gv rfl hd h kk
theorem aLO{T:TypeId}{n:Nat}{ps:Array (Nat×Operand)}(hg:eg ops L ⟨some d,(.buildSlice T n ps),ty,pos,af,some (j,w)⟩ true)(hd:L.heap d=none)(h:dV P L.ev d (.buildSlice T n ps) r bk)(kk:opsL P dr ops rest ((L.bO d (some bk)).put (some d) r) K):opsL P dr ops (⟨some d,(.buildSlice T n ps),ty,pos,af,some (j,w)⟩::rest) L K:=gv hg hd h kk
theorem aGg{T:TypeId}{p y:Operand}(h:iI P L dst (.store T p y) L')(kk:opsL P dr ops rest L' K):opsL P dr ops (⟨dst,.store T p y,ty,pos,af,none⟩::rest) L K:=cj rfl h kk
theorem aPz{T:TypeId}{p y:Operand}(hg:eg ops L ⟨dst,.store T p y,ty,pos,af,some (j,w)⟩ true)(h:iI P L dst (.store T p y) L')(kk:opsL P dr ops rest L' K):opsL P dr ops (⟨dst,.store T p y,ty,pos,af,some (j,w)⟩::rest) L K:=cj hg h kk
theorem aMc{op:Op}(hg:eg ops L ⟨dst,op,ty,pos,af,some (j,w)⟩ false)(kk:opsL P dr ops rest (L.put dst (.aY [])) K):opsL P dr ops (⟨dst,op,ty,pos,af,some (j,w)⟩::rest) L K:=xn hg kk
end
theorem rp{p:Prop}(h:p:=by first|exact ib (v:=true) rfl rfl x7 rfl|exact ib (v:=false) rfl rfl x7 rfl):p:=h
theorem zGf{p:Prop}(h:p:=by first|exact ib (v:=true) rfl rfl x7 rfl|exact ib (v:=false) rfl rfl x7 rfl|exact aIX rfl rfl):p:=h
theorem aOT{P:Program}{L:St}{Q:lR->St->Prop}{l:List Oper}{id:Nat}(hm:(cN (l.length+1)).any (fun m=>z8 l.toArray m [])=true)(h:opsL P true l.toArray l L (Q .normal)):c9 P (.region id l.toArray true) Q L:=by
 obtain⟨m,_,hm⟩:=List.any_eq_true.1 hm;exact aN1 m hm h
theorem jn{p q:Prop}(k:q)(h:cQ q->p:=by intro kk;first|(apply aKG;exact kk.h)|(apply aOk;exact kk.h)|(apply mv;exact kk.h)|(apply asg;exact kk.h)|(apply vP;exact nf;exact kk.h)|(apply aKD;exact kk.h)|(apply aOT;decide +kernel;exact kk.h)|(apply aDE;exact gJ;exact kk.h)|(apply aNd;exact biA;exact kk.h)|(apply aIn;exact zj;exact kk.h)|(apply aIu;exact l5;exact kk.h)|(apply aJN;exact xt;exact kk.h)|(apply aLb;exact aAl;exact kk.h)|(apply aEU;exact .extract rfl rfl nt0;exact kk.h)|(apply aGg;exact srA;exact kk.h)|(apply aIA;exact rfl;(first|(apply dV.ui;exact rfl)|exact .box ni);exact kk.h)|(apply aMs;exact rfl;(first|exact .alE|exact .alloc ZI.h);exact kk.h)|(apply aEa;(first|exact .sR rfl x7|exact .r7 rfl x7);exact kk.h)|(apply aJa;exact cvA;exact kk.h)|(apply aHM;(first|exact .not rfl|exact .neg rfl);exact kk.h)|(apply aKT;(first|exact .field rfl SI.h rfl rfl|exact .field rfl (anU SI.h cs) rfl pu);exact kk.h)|(apply aNt;exact rfl;(first|(apply dV.l1;exact rfl;decide;decide)|exact .l0|(apply dV.l2;exact rfl;exact rfl;decide;decide)|(apply dV.l3;exact rfl;exact rfl;exact rfl;decide;decide)|(apply dV.l4;exact rfl;exact rfl;exact rfl;exact rfl;decide;decide));exact kk.h)|(apply tj;(first|exact .aKv rfl rfl rfl|exact .aNX rfl rfl rfl rfl|exact .aMA rfl rfl|exact .aF0 rfl rfl rfl|exact .aBS SI.h ZI.h rfl rfl|exact .bd rfl nes|exact .bd cs anP|exact .yX laE anP);exact kk.h)|(apply aGS;(first|exact .ahF rfl|exact .ag8 rfl);exact kk.h)|(apply aHJ;exact kk.h)|(apply aFl;exact kk.h)|(apply aLx;exact kk.h)|(apply aLE;exact kk.h)|(apply aEL;exact kk.h)|(apply qO;exact rfl;exact x7;exact kk.h)|(apply rA;exact rfl;exact x7;exact kk.h)|(apply aKA;exact kk.h)|(apply aPP;exact kk.h)|(apply aFy;exact kk.h)|(apply aFX;exact kk.h)|(apply aIU;decide;exact kk.h)|(apply aMc;exact zGf;exact kk.h)|(apply aMf;exact rp;(exact .move _);exact kk.h)|(apply aHS;exact rp;(exact gJ);exact kk.h)|(apply aEm;exact rp;(exact biA);exact kk.h)|(apply aOR;exact rp;(exact zj);exact kk.h)|(apply aOM;exact rp;(exact l5);exact kk.h)|(apply aNc;exact rp;(exact xt);exact kk.h)|(apply aEd;exact rp;(exact aAl);exact kk.h)|(apply aOn;exact rp;(exact .extract rfl rfl nt0);exact kk.h)|(apply aPz;exact rp;exact srA;exact kk.h)|(apply aOU;exact rp;(exact .assign _);exact kk.h)|(apply aG4;exact rp;exact rfl;(first|(apply dV.ui;exact rfl)|exact .box ni);exact kk.h)|(apply aEz;exact rp;exact rfl;(first|exact .alE|exact .alloc ZI.h);exact kk.h)|(apply aFK;exact rp;(first|exact .sR rfl x7|exact .r7 rfl x7);exact kk.h)|(apply aGP;exact rp;(exact cvA);exact kk.h)|(apply aDD;exact rp;(first|exact .not rfl|exact .neg rfl);exact kk.h)|(apply aHL;exact rp;(first|exact .field rfl SI.h rfl rfl|exact .field rfl (anU SI.h cs) rfl pu);exact kk.h)|(apply aLO;exact rp;exact rfl;(first|(apply dV.l1;exact rfl;decide;decide)|exact .l0|(apply dV.l2;exact rfl;exact rfl;decide;decide)|(apply dV.l3;exact rfl;exact rfl;exact rfl;decide;decide)|(apply dV.l4;exact rfl;exact rfl;exact rfl;exact rfl;decide;decide));exact kk.h)|(apply aMF;exact rp;(first|exact .aBS SI.h ZI.h rfl rfl|exact .bd rfl nes|exact .bd cs anP|exact .yX laE anP);exact kk.h)|(apply aG3;exact rp;(first|exact .ahF rfl|exact .ag8 rfl);exact kk.h)):p:=h ⟨k⟩
theorem bn{p q:Prop}(k:q)(h:cQ q->p:=by intro hq;(iterate 1 refine jn ?_);exact hq.h):p:=h ⟨k⟩
theorem bc{p q:Prop}(k:q)(h:cQ q->p:=by intro hq;(iterate 2 refine jn ?_);exact hq.h):p:=h ⟨k⟩
theorem bI{p q:Prop}(k:q)(h:cQ q->p:=by intro hq;(iterate 3 refine jn ?_);exact hq.h):p:=h ⟨k⟩
theorem aK{p q:Prop}(k:q)(h:cQ q->p:=by intro hq;(iterate 4 refine jn ?_);exact hq.h):p:=h ⟨k⟩
theorem aW{p q:Prop}(k:q)(h:cQ q->p:=by intro hq;(iterate 5 refine jn ?_);exact hq.h):p:=h ⟨k⟩
theorem a6{p q:Prop}(k:q)(h:cQ q->p:=by intro hq;(iterate 6 refine jn ?_);exact hq.h):p:=h ⟨k⟩
theorem bK{p q:Prop}(k:q)(h:cQ q->p:=by intro hq;(iterate 7 refine jn ?_);exact hq.h):p:=h ⟨k⟩
theorem bH{p q:Prop}(k:q)(h:cQ q->p:=by intro hq;(iterate 8 refine jn ?_);exact hq.h):p:=h ⟨k⟩
theorem bM{p q:Prop}(k:q)(h:cQ q->p:=by intro hq;(iterate 9 refine jn ?_);exact hq.h):p:=h ⟨k⟩
theorem b7{p q:Prop}(k:q)(h:cQ q->p:=by intro hq;(iterate 10 refine jn ?_);exact hq.h):p:=h ⟨k⟩
theorem bN{p q:Prop}(k:q)(h:cQ q->p:=by intro hq;(iterate 11 refine jn ?_);exact hq.h):p:=h ⟨k⟩
theorem bG{p q:Prop}(k:q)(h:cQ q->p:=by intro hq;(iterate 12 refine jn ?_);exact hq.h):p:=h ⟨k⟩
theorem dj{p q:Prop}(k:q)(h:cQ q->p:=by intro hq;(iterate 13 refine jn ?_);exact hq.h):p:=h ⟨k⟩
theorem ff{p q:Prop}(k:q)(h:cQ q->p:=by intro hq;(iterate 14 refine jn ?_);exact hq.h):p:=h ⟨k⟩
theorem iR{p q:Prop}(k:q)(h:cQ q->p:=by intro hq;(iterate 15 refine jn ?_);exact hq.h):p:=h ⟨k⟩
theorem lN{p q:Prop}(k:q)(h:cQ q->p:=by intro hq;(iterate 16 refine jn ?_);exact hq.h):p:=h ⟨k⟩
theorem nh{p q:Prop}(k:q)(h:cQ q->p:=by intro hq;(iterate 17 refine jn ?_);exact hq.h):p:=h ⟨k⟩
theorem uV{p q:Prop}(k:q)(h:cQ q->p:=by intro hq;(iterate 18 refine jn ?_);exact hq.h):p:=h ⟨k⟩
theorem lV{p q:Prop}(k:q)(h:cQ q->p:=by intro hq;(iterate 19 refine jn ?_);exact hq.h):p:=h ⟨k⟩
theorem nn{p q:Prop}(k:q)(h:cQ q->p:=by intro hq;(iterate 20 refine jn ?_);exact hq.h):p:=h ⟨k⟩
theorem ab7{p q:Prop}(k:q)(h:cQ q->p:=by intro hq;(iterate 21 refine jn ?_);exact hq.h):p:=h ⟨k⟩
theorem amm{p q:Prop}(k:q)(h:cQ q->p:=by intro hq;(iterate 22 refine jn ?_);exact hq.h):p:=h ⟨k⟩
theorem abE{p q:Prop}(k:q)(h:cQ q->p:=by intro hq;(iterate 23 refine jn ?_);exact hq.h):p:=h ⟨k⟩
theorem abi{p q:Prop}(k:q)(h:cQ q->p:=by intro hq;(iterate 24 refine jn ?_);exact hq.h):p:=h ⟨k⟩
theorem zd{p q:Prop}(k:q)(h:cQ q->p:=by intro hq;(iterate 25 refine jn ?_);exact hq.h):p:=h ⟨k⟩
theorem amI{p q:Prop}(k:q)(h:cQ q->p:=by intro hq;(iterate 26 refine jn ?_);exact hq.h):p:=h ⟨k⟩
theorem avd{p q:Prop}(k:q)(h:cQ q->p:=by intro hq;(iterate 27 refine jn ?_);exact hq.h):p:=h ⟨k⟩
theorem apC{p q:Prop}(k:q)(h:cQ q->p:=by intro hq;(iterate 28 refine jn ?_);exact hq.h):p:=h ⟨k⟩
theorem azO{p q:Prop}(k:q)(h:cQ q->p:=by intro hq;(iterate 31 refine jn ?_);exact hq.h):p:=h ⟨k⟩
theorem aOF{p q:Prop}(k:q)(h:cQ q->p:=by intro hq;(iterate 32 refine jn ?_);exact hq.h):p:=h ⟨k⟩
theorem aDo{p q:Prop}(k:q)(h:cQ q->p:=by intro hq;(iterate 33 refine jn ?_);exact hq.h):p:=h ⟨k⟩
theorem apq{p q:Prop}(k:q)(h:cQ q->p:=by intro hq;(iterate 34 refine jn ?_);exact hq.h):p:=h ⟨k⟩
theorem aIZ{p q:Prop}(k:q)(h:cQ q->p:=by intro hq;(iterate 54 refine jn ?_);exact hq.h):p:=h ⟨k⟩
theorem aKW{p q:Prop}(k:q)(h:cQ q->p:=by intro hq;(iterate 55 refine jn ?_);exact hq.h):p:=h ⟨k⟩
theorem aKZ{p q:Prop}(k:q)(h:cQ q->p:=by intro hq;(iterate 57 refine jn ?_);exact hq.h):p:=h ⟨k⟩
theorem bf{P:Program}{f:FuncId}{args:List LV}{r:LV}(hk:an P f args r){p q:Prop}(k:q)(h:cQ q->an P f args r->p:=by intro hq hc;(repeat refine jn ?_);refine cp cr hc ?_;exact hq.h):p:=h ⟨k⟩ hk
theorem aN{P:Program}{f:FuncId}{args:List LV}{r:LV}(hk:an P f args r){p q:Prop}(k:q)(h:cQ q->an P f args r->p:=by intro hq hc;(repeat refine jn ?_);refine cp aC hc ?_;exact hq.h):p:=h ⟨k⟩ hk
theorem rC{P:Program}{f:FuncId}{args:List LV}{r:LV}(hk:an P f args r){p q:Prop}(k:q)(h:cQ q->an P f args r->p:=by intro hq hc;(repeat refine jn ?_);refine cp kN hc ?_;exact hq.h):p:=h ⟨k⟩ hk
theorem yc5{P:Program}{f:FuncId}{args:List LV}{r:LV}(hk:an P f args r){p q:Prop}(k:q)(h:cQ q->an P f args r->p:=by intro hq hc;(repeat refine jn ?_);refine cp am5 hc ?_;exact hq.h):p:=h ⟨k⟩ hk
theorem yc0{P:Program}{f:FuncId}{args:List LV}{r:LV}(hk:an P f args r){p q:Prop}(k:q)(h:cQ q->an P f args r->p:=by intro hq hc;(repeat refine jn ?_);refine cp am0 hc ?_;exact hq.h):p:=h ⟨k⟩ hk
end Go.Lg
end
