/- Texts LgY, LgR, LgG of this proof, joined. -/
import Derived.Test.YtbgmjcnjbhhljaaGreatQX2
import Derived.Laws.Cover3
set_option linter.unusedVariables false
set_option linter.unusedSimpArgs false
open And renaming intro->bG
open BitVec renaming ofInt->oY,toNat_ofNat->vu,toNat_or->ags
open Classical renaming byContradiction->nR
open Int renaming ediv_nonneg->amp,fdiv_eq_ediv_of_nonneg->afn,natCast_dvd_natCast->agL,neg_mul->ads
open List renaming append_nil->eX,drop_eq_getElem_cons->yE,drop_of_length_le->iP,drop_zero->gX,getD_cons_succ->iG,getD_cons_zero->ij,getD_eq_getElem?_getD->bf,getElem?_eq_getElem->bO,getElem?_eq_none->aaL,getElem?_set_self->anH,getLast_cons->ajQ,getLast_eq_getElem->ajq,length_cons->dO,length_map->bF,length_nil->ff,length_take->eE,map_take->pU,mem_cons->fJ,nil_append->eF,not_mem_nil->jN,range->eH,replicate->aJ,set_cons_succ->cd,set_cons_zero->cw,take_length->je,take_nil->gE,take_of_length_le->cW,take_succ_eq_append_getElem->tQ
open List.cons renaming injEq->dq
open Nat renaming add_comm->td,add_mul->ep,add_right_comm->afH,add_sub_cancel->agc,add_zero->jK,beq->mO,beq_eq->sR,div_add_mod->yT,div_eq_of_lt->we,div_le_self->qd,div_lt_iff_lt_mul->jZ,eq_zero_or_pos->adf,gcd_comm->mE,gcd_dvd_left->vX,le_div_iff_mul_le->th,le_max_left->ana,le_max_right->agK,le_of_eq->aad,le_of_lt->sO,le_refl->bA,le_sub_one_of_lt->aoa,le_trans->bW,lt_of_le_of_lt->sT,lt_of_lt_of_le->oK,lt_of_mul_lt_mul_right->apV,lt_trans->aiC,min_eq_left->jE,mod_eq_of_lt->fa,mod_self->apG,mul_add->di,mul_add_div->apN,mul_assoc->dZ,mul_comm->er,mul_le_mul->rF,mul_le_mul_left->nH,mul_le_mul_right->dT,mul_left_comm->yY,mul_lt_mul_of_pos_right->afo,mul_mod_mul_right->anP,mul_pos->sv,mul_right_comm->aqS,mul_zero->uA,not_lt->ahr,one_mul->vI,or_comm->alx,pos_of_ne_zero->qa,pow_add->jl,pow_le_pow_right->tZ,pow_pos->lM,pow_succ->gx,reduceAdd->aW,reduceBEq->aS,reduceEqDiff->cy,reduceMul->aZ,shiftLeft_add_eq_or_of_lt->afO,shiftLeft_eq->af9,strongRecOn->zf,zero_add->fW
open Option renaming getD_some->vS
open Rat renaming div_def->tu,mkRat_add_mkRat->af2,mkRat_self->anJ,neg_mkRat->aiU,not_le->aqi,num_mkRat->ao8,num_nonneg->aow
section
set_option linter.unusedVariables false
set_option linter.unusedSimpArgs false
namespace Go.Lg
def val:List Nat->Nat
 | []=>0
 |x::xs=>x+4294967296*val xs
def bh(l:List Nat):Prop:=∀x∈l,x<4294967296
def wq:Nat->Nat->List Nat
 |0,_=>[]
 |k+1,n=>if n=0 then []else n%4294967296::wq k (n/4294967296)
def ah(n:Nat):List Nat:=wq n n
theorem adK:∀k,wq k 0=[]
 |0=>rfl
 |k+1=>by simp[wq]
theorem ajE:∀(k j n:Nat),n<=k->n<=j->wq k n=wq j n
 |0,j,n,h,_=>by
   have:n=0:=aa;subst this;rw[adK,adK]
 |k+1,0,n,_,h=>by
   have:n=0:=aa;subst this;rw[adK,adK]
 |k+1,j+1,n,h1,h2=>by
   simp only[wq];split
   ·rfl
   rw[ajE k j (n/4294967296) aa aa]
theorem su:ah 0=[]:=rfl
theorem wm{n:Nat}(h:0<n):ah n=n%4294967296::ah (n/4294967296):=by
 unfold ah;obtain⟨k,rfl⟩:∃k,n=k+1:=⟨n-1,aa⟩;rw[wq,if_neg aa,ajE k ((k+1)/4294967296) _ aa (bA _)]
theorem bq(n:Nat):val (ah n)=n:=by
 induction n using zf with
 |_ n ih =>
  by_cases h:n=0
  ·subst h;rfl
  rw[wm aa,val,ih (n/4294967296) aa];omega
theorem b7(n:Nat):bh (ah n):=by
 induction n using zf with
 |_ n ih =>
  by_cases h:n=0
  ·subst h;intro x hx;cases hx
  rw[wm aa];intro x hx;rcases fJ.1 hx with rfl|hx
  ·omega
  exact ih _ aa x hx
def Can(l:List Nat):Prop:=∀h:l≠[],l.getLast h≠0
theorem abp(n:Nat):Can (ah n):=by
 induction n using zf with
 |_ n ih =>
  by_cases h:n=0
  ·subst h;intro h;exact absurd rfl h
  rw[wm aa];intro aG;by_cases h2:n/4294967296=0
  ·have e:ah (n/4294967296)=[]:=by rw[h2];rfl
   simp only[e,List.getLast_singleton];omega
  have amw:ah (n/4294967296)≠[]:=by rw[wm aa];simp
  rw[ajQ amw];exact ih _ aa amw
theorem aqT{x:Nat}{xs:List Nat}(h:Can (x::xs)):Can xs:=fun aG=>by
 have:=h (List.cons_ne_nil _ _);rwa[ajQ aG]at this
theorem aoW:∀{l:List Nat},Can l->l≠[]->0<val l
 | [],_,h=>absurd rfl h
 | [x],h,_=>by have:=h az;simp at this;simp[val];omega
 |x::y::l,h,_=>by
   have:=aoW (aqT h) az;simp only[val]at this ⊢;omega
theorem aou:∀{l:List Nat},bh l->Can l->ah (val l)=l
 | [],_,_=>rfl
 |x::xs,h1,h2=>by
   have hp:=aoW h2 az;have hx:=h1 x az;have ih:=aou (l:=xs) (fun y hy=>h1 y (by simp[hy])) (aqT h2);rw[wm hp];have e1:val (x::xs)%4294967296=x:=by simp only[val];omega
   have e2:val (x::xs)/4294967296=val xs:=by simp only[val];omega
   rw[e1,e2,ih]
theorem yj:∀{l:List Nat},bh l->val l<4294967296^l.length
 | [],_=>by simp[val]
 |x::xs,h=>by
   have ih:=yj (l:=xs) (fun y hy=>h y (by simp[hy]));have hx:=h x az;simp only[val,dO,gx];have:val xs+1<=4294967296^xs.length:=ih;have:=dT 4294967296 this;omega
theorem aaI:∀(l m:List Nat),val (l++m)=val l+4294967296^l.length*val m
 | [],m=>by simp[val]
 |x::xs,m=>by
   simp only[List.cons_append,val,aaI xs m,dO,gx];rw[di,<-dZ,er 4294967296 (4294967296^xs.length)];omega
theorem aeA:∀k,val (aJ k 0)=0
 |0=>rfl
 |k+1=>by simp[List.replicate_succ,val,aeA k]
theorem sq{n k:Nat}(h:n<4294967296^k):(ah n).length<=k:=by
 induction k generalizing n with
 |zero =>
      have:n=0:=ga;subst this;simp[su]
 |succ k ih =>
  by_cases h0:n=0
  ·subst h0;simp[su]
  rw[wm aa,dO];have:=ih (n:=n/4294967296) (by rw[jZ aa];rwa[<-gx]);omega
theorem pS{n k:Nat}(h:(ah n).length<=k):n<4294967296^k:=by
 have h1:=yj (b7 n);rw[bq]at h1;exact oK h1 (tZ aa h)
theorem akG{n k:Nat}:(ah n).length<=k↔n<4294967296^k:=⟨pS,sq⟩
theorem oX{n:Nat}:ah n=[]↔n=0:=by
 constructor
 ·intro h;have:=bq n;rw[h]at this;exact this.symm
 rintro rfl;rfl
theorem aks{l m:List Nat}(h1:bh l)(h2:bh m):bh (l++m):=fun x hx=>by
 rcases List.mem_append.1 hx with h|h
 ·exact h1 x h
 exact h2 x h
theorem sm{l:List Nat}(h:bh l)(k:Nat):bh (l.take k):=fun x hx=>h x (List.mem_of_mem_take hx)
theorem au2{l:List Nat}(h:bh l)(k:Nat):bh (l.drop k):=fun x hx=>h x (List.mem_of_mem_drop hx)
theorem qI(k:Nat):bh (aJ k 0):=fun x hx=>by rw[(List.mem_replicate.1 hx).2];omega
theorem az2{l:List Nat}(h:bh l)(k:Nat):l.getD k 0<4294967296:=by
 rw[bf]
 cases hq:l[k]? with
 |none=>simp
 |some x=>simpa using h x (List.mem_of_getElem? hq)
theorem anC{l:List Nat}{k:Nat}(h:k<l.length):val (l.take (k+1))=val (l.take k)+4294967296^k*l.getD k 0:=by
 rw[tQ h,aaI,eE,jE aa,bf,bO h];simp[val]
def fD:Nat->List Nat->Nat
 |0,_=>0
 |n+1,l=>if l.getD n 0=0 then fD n l else n+1
theorem afR:∀(n:Nat) (l:List Nat),fD n l<=n
 |0,_=>by simp[fD]
 |n+1,l=>by simp only[fD];split;have:=afR n l;omega;omega
theorem ad3:∀(n:Nat) (l:List Nat),n<=l.length->Can (l.take (fD n l))/\val (l.take (fD n l))=val (l.take n)
 |0,l,_=>by simp[fD,Can]
 |n+1,l,h=>by
   simp only[fD];split
   ·rename_i h0;have ih:=ad3 n l aa;refine⟨ih.1,ih.2.trans ?_⟩;rw[anC aa,h0];simp
   rename_i h0;refine⟨fun aG=>?_,rfl⟩;rw[ajq];simp only[eE,jE h,agc,List.getElem_take];rw[bf,bO aa]at h0;exact h0
def sF(l:List Nat):List Nat:=l.take (fD l.length l)
theorem qw{l:List Nat}(h:bh l):sF l=ah (val l):=by
 have:=ad3 l.length l (bA _);rw[je]at this;rw[<-this.2];exact(aou (sm h _) this.1).symm
def aO(n:Nat):LV:=.v (.int .u32 n)
def jx(n:Int):LV:=.v (.int .i64 n)
theorem eu:fe aO 1 false:=⟨fun _=>rfl,fun _=>rfl,fun _=>rfl⟩
theorem m8:fe jx 1 false:=⟨fun _=>rfl,fun _=>rfl,fun _=>rfl⟩
def dB(l:List Nat):LV:=.list 1 (l.map aO)
def aM(n:Nat):LV:=.list 1 ((ah n).map aO)
theorem gw(n:Nat):(aM n).pure=true:=by simp only[aM,LV.pure];exact bS eu _
def gB(q:Rat):Nat:=if q.den=1 then 0 else q.den
@[irreducible] def ab (q:Rat):LV:=.agg [.v (.bool (decide (q<0))),aM q.num.natAbs,aM (gB q)]
theorem qV(q:Rat):ab q=.agg [.v (.bool (decide (q<0))),aM q.num.natAbs,aM (gB q)]:=by unfold ab;rfl
theorem al:fe ab 3 true:=by
 refine⟨fun q=>?_,fun q=>?_,fun q=>?_⟩
 ·rw[qV];rfl
 ·rw[qV];rfl
 rw[qV];simp[LV.pure,aN,gw]
theorem asC(q:Rat):(ab q).at 0 1 false=some (.v (.bool (decide (q<0)))):=by rw[qV];rfl
theorem axr(q:Rat):(ab q).at 1 1 false=some (aM q.num.natAbs):=by rw[qV];rfl
theorem axX(q:Rat):(ab q).at 2 1 false=some (aM (gB q)):=by rw[qV];rfl
theorem pC(q:Rat):(ab q).at 0 3 true=some (ab q):=by
 have:=agu (ab q) (al.pure q);rwa[al.aj,al.isAgg]at this
theorem iF:ab 0=.agg [.v (.bool false),.list 1 [],.list 1 []]:=by rw[qV];rfl
@[irreducible] def cP (s:Rat×Rat):LV:=.agg [ab s.1,ab s.2]
theorem rL(s:Rat×Rat):cP s=.agg [ab s.1,ab s.2]:=by unfold cP;rfl
theorem cB:fe cP 6 true:=by
 refine⟨fun s=>?_,fun s=>?_,fun s=>?_⟩<;>rw[rL]<;>simp[LV.aj,bI,LV.isAgg,LV.pure,aN,al.aj,al.pure]
theorem acN(s:Rat×Rat):(cP s).at 0 6 true=some (cP s):=by
 have:=agu (cP s) (cB.pure s);rwa[cB.aj,cB.isAgg]at this
theorem aj8(s:Rat×Rat):(cP s).at 0 3 true=some (ab s.1):=by
 rw[rL];simp[LV.at,lE,bI,al.aj,pC]
theorem an4(s:Rat×Rat):(cP s).at 3 3 true=some (ab s.2):=by
 rw[rL];simp[LV.at,lE,bI,al.aj,pC]
theorem jz(q:Rat)(b:Nat):(ab q).kill b=ab q:=LV.kM b _ (al.pure q)
theorem cT{α:Type}{e:α->LV}{sz:Nat}{ag:Bool}(h:fe e sz ag)(b:Nat)(l:List α):a9 b (l.map e)=l.map e:=acP b _ (bS h l)
theorem acO(q:Rat×Rat)(b:Nat):(cP q).kill b=cP q:=LV.kM b _ (cB.pure q)
section
variable {Z:Nat->Prop} {μ:Nat->Option Nat} {w:World}
theorem au9{x:Value}(h:x.oneCell'=true):ao Z μ w (.v x) [x]:=by simp only[ao];exact⟨trivial,h⟩
theorem aeN(sz:Nat):ao Z μ w (.list sz []) [.slice none 0 0]:=by simp only[ao];exact⟨none,0,0,rfl,rfl,bA _,.inl trivial,rfl⟩
theorem azZ{l:List LV}{cs:List Value}(h:a8 Z μ w l cs):ao Z μ w (.agg l) cs:=by simp only[ao];exact h
theorem auf:a8 Z μ w [] []:=by simp only[a8]
theorem av2{x:LV}{xs:List LV}{c1 c2:List Value}(h1:c1.length=x.aj)(h2:ao Z μ w x c1)(h3:a8 Z μ w xs c2):a8 Z μ w (x::xs) (c1++c2):=by
 simp only[a8];exact⟨c1,c2,rfl,h1,h2,h3⟩
end
end Go.Lg
namespace Go.Lg
abbrev bP(n:Nat):LV:=.v (.int .u64 ((n:Nat):Int))
abbrev mj(n:Nat):LV:=.v (.int .u32 ((n:Nat):Int))
abbrev ak(n:Nat):LV:=.v (.int .i64 ((n:Nat):Int))
abbrev bL(b:Bool):LV:=.v (.bool b)
abbrev iL(n:Int):LV:=.v (.int .i64 n)
section
variable {a b:Nat}
theorem amg(h:a+b<18446744073709551616):cj .add .u64 (a:Nat) (b:Nat)=some (.int .u64 ((a+b:Nat):Int)):=by
 simp only[cj];rw[IntWalk.u64_in _ aa];simp
theorem yQ(h:a*b<18446744073709551616):cj .mul .u64 (a:Nat) (b:Nat)=some (.int .u64 ((a*b:Nat):Int)):=by
 simp only[cj];have e:((a:Int)*(b:Int))=((a*b:Nat):Int):=az;rw[e,IntWalk.u64_in _ aa]
theorem amL(h:b<=a)(h1:a<18446744073709551616):cj .sub .u64 (a:Nat) (b:Nat)=some (.int .u64 ((a-b:Nat):Int)):=by
 simp only[cj];rw[IntWalk.u64_in _ aa];congr 2;omega
theorem aa7(h:b<=18446744073709551616):cj .sub .u64 (a:Nat) (b:Nat)=some (.int .u64 (((18446744073709551616+a-b)%18446744073709551616:Nat):Int)):=by
 simp only[cj];rw[IntKind.wrap_u64];congr 2;omega
theorem ahs(h:0<b)(h1:a<18446744073709551616):cj .quo .u64 (a:Nat) (b:Nat)=some (.int .u64 ((a/b:Nat):Int)):=by
 have e:((a:Int).tdiv (b:Int))=((a/b:Nat):Int):=az;have h2:a/b<=a:=qd a b;simp only[cj];rw[if_neg aa,e,IntWalk.u64_in _ ⟨Int.natCast_nonneg _,aa⟩]
theorem agD(h:0<b):cj .rem .u64 (a:Nat) (b:Nat)=some (.int .u64 ((a%b:Nat):Int)):=by
 simp only[cj];rw[if_neg aa];congr 2
theorem aa3(h:a*4294967296<18446744073709551616):lz .shl .u64 (a:Nat) 32=some (.int .u64 ((a*4294967296:Nat):Int)):=by
 have e:(2:Int)^min (32:Int).toNat IntKind.u64.bits=4294967296:=an;simp only[lz];rw[if_neg aa,e,IntWalk.u64_in _ aa];simp
theorem aAa:lz .shr .u64 (a:Nat) 32=some (.int .u64 ((a/4294967296:Nat):Int)):=by
 have e:(2:Int)^min (32:Int).toNat IntKind.u64.bits=4294967296:=an;simp only[lz];rw[if_neg aa,e,afn _ aa];congr 2
theorem ayJ:lz .shr .u64 (a:Nat) 63=some (.int .u64 ((a/9223372036854775808:Nat):Int)):=by
 have e:(2:Int)^min (63:Int).toNat IntKind.u64.bits=9223372036854775808:=an;simp only[lz];rw[if_neg aa,e,afn _ aa];congr 2
theorem vC(n w:Nat):(oY w (n:Int))=BitVec.ofNat w n:=az
theorem orU{x:Nat}(hb:b<4294967296)(hx:x<4294967296):cj .or .u64 ((x*4294967296:Nat):Int) (b:Nat)=some (.int .u64 ((x*4294967296+b:Nat):Int)):=by
 have e:(oY IntKind.u64.bits ((x*4294967296:Nat):Int) ||| oY IntKind.u64.bits (b:Int)).toNat=x*4294967296+b:=by
  rw[vC,vC,ags,vu,vu];have e1:x*4294967296%2^IntKind.u64.bits=x*4294967296:=fa (by show _<18446744073709551616;omega);have e2:b%2^IntKind.u64.bits=b:=fa (by show _<18446744073709551616;omega);rw[e1,e2];have:=afO (i:=32) (b:=b) (by simpa using hb) x;rw[af9]at this;exact this.symm
 simp only[cj,e];rw[IntWalk.u64_in _ aa]
theorem wrap32:IntKind.u32.wrap (a:Nat)=((a%4294967296:Nat):Int):=by rw[IntKind.wrap_u32];omega
theorem wrap64(h:a<18446744073709551616):IntKind.u64.wrap (a:Nat)=(a:Int):=IntWalk.u64_in _ aa
theorem qg{x y:Nat}(hx:x<4294967296)(hy:y<4294967296):x*y<=18446744065119617025:=by
 have:=rF (aoa hx) (aoa hy);simpa using this
end
section
variable {P:Program} {H:bn} {ρ:Operand->LV} {S D:TypeId} {x:Operand} {n:Nat} {k':IntKind}
theorem aq.arM{α:Type}{e:α->LV}{sz:Nat}{l:List α}{T:TypeId}{d:TypeId}{bH:Array TypeId}(hx:ρ x=.list sz (l.map e))(has:bH=#[T])(hT:P.underlying T=some (.slice d)):
  aq P H ρ (.call ⟨.builtin .len,#[x],bH⟩) (ak l.length):=by
 have:=aq.um (H:=H) hx has hT;rwa[bF]at this
theorem aq.arC{d:TypeDesc}(hS:P.underlying S=some d)(hD:P.underlying D=some (.int .u32))(hx:ρ x=.v (.int k' (n:Nat))):aq P H ρ (.convert S D x) (mj (n%4294967296)):=by
 have:=aq.conv (H:=H) hS hD hx
 rwa[wrap32]at this
theorem aq.aem{d:TypeDesc}(hS:P.underlying S=some d)(hD:P.underlying D=some (.int .u64))(hx:ρ x=.v (.int k' (n:Nat)))(h:n<18446744073709551616):aq P H ρ (.convert S D x) (bP n):=by
 have:=aq.conv (H:=H) hS hD hx
 rwa[wrap64 h]at this
theorem aq.cvI{d:TypeDesc}{m:Int}(hS:P.underlying S=some d)(hD:P.underlying D=some (.int .i64))(hx:ρ x=.v (.int k' m))(h1:-9223372036854775808<=m)(h2:m<=9223372036854775807):aq P H ρ (.convert S D x) (iL m):=by
 have:=aq.conv (H:=H) hS hD hx
 rwa[IntWalk.i64_in _ ⟨h1,h2⟩]at this
end
section
variable {P:Program} {Q:gI->St->Prop} {L L0:St} {K:St->Prop} {dr:Bool} {ops:Array Oper} {l:List Oper}
theorem az7{d:Nat}{b:Bool}(h:L.slot d=.v (.bool b))(ht:b=true->opsL P dr ops l L K)(hf:b=false->opsL P dr ops l L K):opsL P dr ops l L K:=by
 cases b with
 |true=>exact ht rfl
 |false=>exact hf rfl
theorem pY{c:Operand}{x y:Code}{b:Bool}(hc:L.ev c=.v (.bool b))(hb:b=true)(h:bM P x Q L):bM P (.cond c x y) Q L:=afZ hc (fun _=>h) (fun e=>by rw[hb]at e;cases e)
theorem rX{c:Operand}{x y:Code}{b:Bool}(hc:L.ev c=.v (.bool b))(hb:b=false)(h:bM P y Q L):bM P (.cond c x y) Q L:=afZ hc (fun e=>by rw[hb]at e;cases e) (fun _=>h)
end
theorem av.own{L:St}{t:Nat}(d sz:Nat)(h:L.slot t=.v (.slice none 0 0))(hd:L.heap d=none):av L ((L.a5 d (some ⟨sz,[],true⟩)).put (some t) (.ref d sz 0 0)):=by
 rintro n W X Z0 a w ⟨cZ,a6,μ,Z,hc,hr⟩;refine⟨cZ,a6,μ,Z,?_,fun s=>?_⟩
 ·rw[gD];refine hc.ag5 fun c id qj=>?_;have:c≠d:=by rintro rfl;rw[rP hc hd]at qj;cases qj
  simp[St.a5,this]
 rw[fu];split
 ·rename_i dL;subst dL;have e:=hr s;rw[h]at e;rw[e.cV];exact⟨by simp[LV.isAgg],fun _=>by simp[ao]⟩
 exact hr s
theorem av.any(L:St)(t:Nat):av L (L.put (some t) .any):=by
 rintro n W X Z0 a w ⟨cZ,a6,μ,Z,hc,hr⟩;refine⟨cZ,a6,μ,Z,by rw[gD];exact hc,fun s=>?_⟩;rw[fu];split
 ·trivial
 exact hr s
def hp:List (Nat×aL)->bn
 | [],_=>none
 |(b,x)::l,c=>bif mO c b then some x else hp l c
def ins(b:Nat)(x:aL):List (Nat×aL)->List (Nat×aL)
 | []=>[(b,x)]
 |(c,y)::l=>bif mO c b then(b,x)::l else(c,y)::ins b x l
def kI(b:Nat):List (Nat×aL)->List (Nat×aL)
 | []=>[]
 |(c,y)::l=>bif mO c b then kI b l else(c,⟨y.sz,a9 b y.vals,y.mt⟩)::kI b l
def xS(bs:List Nat):List (Nat×aL)->List (Nat×aL)
 | []=>[]
 |(c,y)::l=>(c,⟨y.sz,y.vals,y.mt&&!bs.contains c⟩)::xS bs l
theorem beq_eq{a b:Nat}(h:mO a b=true):a=b:=Nat.eq_of_beq_eq_true h
theorem qf(a:Nat):mO a a=true:=by rw[sR]
theorem nz{a b:Nat}(h:a≠b):mO a b=false:=by rw[<-Bool.not_eq_true,sR];exact h
theorem am9(b:Nat)(x:aL):∀(l:List (Nat×aL)) (c:Nat),hp (ins b x l) c=if c=b then some x else hp l c
 | [],c=>by
   simp only[ins,hp];by_cases h:c=b
   ·subst h;rw[qf];simp
   rw[nz h,if_neg h];rfl
 |(d,y)::l,c=>by
   simp only[ins];by_cases pH:d=b
   ·subst pH;rw[qf];simp only[cond_true,hp];by_cases h:c=d
    ·subst h;rw[qf];simp
    rw[nz h,if_neg h];rfl
   rw[nz pH];simp only[cond_false,hp,am9 b x l c];by_cases h:c=d
   ·subst h;rw[qf];simp[pH]
   rw[nz h];rfl
theorem ach(b:Nat):∀(l:List (Nat×aL)) (c:Nat),hp (kI b l) c=if c=b then none else(hp l c).map fun blk=>⟨blk.sz,a9 b blk.vals,blk.mt⟩
 | [],c=>by simp[kI,hp]
 |(d,y)::l,c=>by
   simp only[kI];by_cases pH:d=b
   ·subst pH;rw[qf];simp only[cond_true,ach d l c,hp];by_cases h:c=d
    ·rw[if_pos h,if_pos h]
    rw[if_neg h,if_neg h,nz h];rfl
   rw[nz pH];simp only[cond_false,hp,ach b l c];by_cases h:c=d
   ·subst h;rw[qf];simp[pH]
   rw[nz h];rfl
theorem aqL(bs:List Nat):∀(l:List (Nat×aL)) (c:Nat),hp (xS bs l) c=(hp l c).map fun blk=>⟨blk.sz,blk.vals,blk.mt&&!bs.contains c⟩
 | [],c=>rfl
 |(d,y)::l,c=>by
   simp only[xS,hp,aqL bs l c];by_cases h:c=d
   ·subst h;rw[qf];rfl
   rw[nz h];rfl
theorem b1(s:Nat->LV)(l:List (Nat×aL))(b:Nat)(x:aL):(St.mk s (hp l)).a5 b (some x)=St.mk s (hp (ins b x l)):=by
 simp only[St.a5,St.mk.injEq,true_and];funext c;rw[am9]
theorem b2(L:St)(t:Nat)(r:LV)(b:Nat)(x:Option aL):(L.put (some t) r).a5 b x=(L.a5 b x).put (some t) r:=rfl
theorem b3(s:Nat->LV)(l:List (Nat×aL))(b:Nat):(St.mk s (hp l)).kill b=St.mk (fun t=>(s t).kill b) (hp (kI b l)):=by
 simp only[St.kill,St.mk.injEq,true_and];funext c;rw[ach]
theorem b4(L:St)(t:Nat)(r:LV)(b:Nat):(L.put (some t) r).kill b=(L.kill b).put (some t) (r.kill b):=by
 simp only[St.kill,St.put,St.mk.injEq,and_true];funext s
 cases mO s t<;>rfl
theorem b5(s:Nat->LV)(l:List (Nat×aL))(bs:List Nat):(St.mk s (hp l)).bo bs=St.mk s (hp (xS bs l)):=by
 simp only[St.bo,St.mk.injEq,true_and];funext c;rw[aqL]
theorem b6(L:St)(t:Nat)(r:LV)(bs:List Nat):(L.put (some t) r).bo bs=(L.bo bs).put (some t) r:=rfl
theorem i1(b:Nat)(x:aL):ins b x []=[(b,x)]:=rfl
theorem i2(b c:Nat)(x y:aL)(l:List (Nat×aL))(h:(c==b)=true):ins b x ((c,y)::l)=(b,x)::l:=by
 simp only[beq_iff_eq]at h;simp only[ins,h,qf,cond_true]
theorem i3(b c:Nat)(x y:aL)(l:List (Nat×aL))(h:(c==b)=false):ins b x ((c,y)::l)=(c,y)::ins b x l:=by
 have h':c≠b:=ga;simp only[ins,nz h',cond_false]
theorem i4(b:Nat):kI b []=[]:=rfl
theorem i5(b c:Nat)(y:aL)(l:List (Nat×aL))(h:(c==b)=true):kI b ((c,y)::l)=kI b l:=by
 simp only[beq_iff_eq]at h;simp only[kI,h,qf,cond_true]
theorem i6(b c:Nat)(y:aL)(l:List (Nat×aL))(h:(c==b)=false):kI b ((c,y)::l)=(c,⟨y.sz,a9 b y.vals,y.mt⟩)::kI b l:=by
 have h':c≠b:=ga;simp only[kI,nz h',cond_false]
theorem nr{L:St}{l:List (Nat×aL)}(h:L.heap=hp l):St.mk L.slot (hp l)=L:=by rw[<-h]
def o8(b:Nat):List (Nat×aL)->List (Nat×aL)
 | []=>[]
 |(c,y)::l=>bif mO c b then o8 b l else(c,y)::o8 b l
theorem ahP(b:Nat):∀(l:List (Nat×aL)) (c:Nat),hp (o8 b l) c=if c=b then none else hp l c
 | [],c=>by simp[o8,hp]
 |(d,y)::l,c=>by
   simp only[o8];by_cases pH:d=b
   ·subst pH;rw[qf];simp only[cond_true,ahP d l c,hp];by_cases h:c=d
    ·rw[if_pos h,if_pos h]
    rw[if_neg h,if_neg h,nz h];rfl
   rw[nz pH];simp only[cond_false,hp,ahP b l c];by_cases h:c=d
   ·subst h;rw[qf];simp[pH]
   rw[nz h];rfl
theorem bh7(s:Nat->LV)(l:List (Nat×aL))(b:Nat):(St.mk s (hp l)).a5 b none=St.mk s (hp (o8 b l)):=by
 show St.mk s _=_;congr 1;funext c;exact(ahP b l c).symm
theorem dh1(b:Nat):o8 b []=[]:=rfl
theorem dh2(b c:Nat)(y:aL)(l:List (Nat×aL))(h:(c==b)=true):o8 b ((c,y)::l)=o8 b l:=by
 have:c=b:=ga;subst this;simp only[o8,qf,cond_true]
theorem dh3(b c:Nat)(y:aL)(l:List (Nat×aL))(h:(c==b)=false):o8 b ((c,y)::l)=(c,y)::o8 b l:=by
 have:c≠b:=ga;simp only[o8,nz this,cond_false]
def ar(P:Program)(f:FuncId)(args:List LV)(r:LV):Prop:=ke P f args r []/\∀g,r.bl g=r
section
variable {P:Program} {dr:Bool} {ops:Array Oper} {rest:List Oper} {L:St} {K:St->Prop} {dst:Option Tmp} {ty:TypeId} {pos:String} {af:Array Edge} {g:Option (Nat×Bool)}
theorem cF{f:FuncId}{xs:Array Operand}{bH:Array TypeId}{args:List LV}{r:LV}(hg:cI ops L ⟨dst,.call ⟨.value (.func f),xs,bH⟩,ty,pos,af,g⟩ true)
  (ha:dP L.heap (xs.toList.map L.ev) args) (hk:ar P f args r) (k:opsL P dr ops rest (L.put dst r) K) :
  opsL P dr ops (⟨dst,.call ⟨.value (.func f),xs,bH⟩,ty,pos,af,g⟩::rest) L K:=aty hg ha hk.1 (hk.2 _) k
theorem zG{f:FuncId}{xs:Array Operand}{bH:Array TypeId}{args:List LV}{r:LV}(bs:List Nat)(hg:cI ops L ⟨dst,.call ⟨.value (.func f),xs,bH⟩,ty,pos,af,g⟩ true)(h0:bs.contains 0=false)
  (ha:dP (L.bo bs).heap (xs.toList.map L.ev) args) (hk:ar P f args r) (k:opsL P dr ops rest ((L.bo bs).put dst r) K) :
  opsL P dr ops (⟨dst,.call ⟨.value (.func f),xs,bH⟩,ty,pos,af,g⟩::rest) L K:=anr bs hg h0 ha hk.1 (hk.2 _) k
theorem aAg{f:FuncId}{fn:Func}{c:Code}{args:List LV}{r:LV}(fI:P.follows .mixedOrders=true)(hf:P.funcs[f]?=some fn)(hb:fn.body=some c)
  (hn:(fn.name== "runtime.NumGoroutine")=false) (hd:ig fn.ntmps c=true) (hlen:args.length<=fn.ntmps) (ht:∀g,r.bl g=r)
  (h:bM P c (fun e L=>match e with | .exit _=>False|_=>mH P fn.results.toList L r []) (St.mk (fun t=>args.getD t .any) (hp []))):ar P f args r:=⟨arj fI hf hb hn hd hlen h,ht⟩
end
theorem avf{P:Program}{f:FuncId}{fn:Func}{c:Code}{args:List LV}{r:LV}{bs:List aL}(fI:P.follows .mixedOrders=true)(hf:P.funcs[f]?=some fn)(hb:fn.body=some c)
  (hn:(fn.name== "runtime.NumGoroutine")=false) (hd:ig fn.ntmps c=true) (hlen:args.length<=fn.ntmps)
  (h:bM P c (fun e L=>match e with | .exit _=>False|_=>mH P fn.results.toList L r bs) (St.mk (fun t=>args.getD t .any) (hp []))):ke P f args r bs:=arj fI hf hb hn hd hlen h
theorem at4{P:Program}{f:FuncId}{fn:Func}{c:Code}{args:List LV}{r:LV}{blk blk':aL}(fI:P.follows .mixedOrders=true)(hf:P.funcs[f]?=some fn)(hb:fn.body=some c)
  (hn:(fn.name== "runtime.NumGoroutine")=false) (hd:ig fn.ntmps c=true) (hlen:args.length<=fn.ntmps) (dW:blk.mt=true)
  (h:bM P c (fun e L=>match e with | .exit _=>False|_=>qX P fn.results.toList L r blk') (St.mk (fun t=>args.getD t .any) (hp [(0,blk)]))):jt P f blk args r blk':=by
 refine ax3 fI hf hb hn hd hlen dW ?_;have:sK args blk=St.mk (fun t=>args.getD t .any) (hp [(0,blk)]):=by
  simp only[sK,St.mk.injEq,true_and];funext c;simp only[hp];by_cases hc:c=0
  ·subst hc;rfl
  rw[nz hc,if_neg hc];rfl
 rw[this];exact h
theorem yV{x:LV}(h:x.pure=true):∀g,x.bl g=x:=fun g=>LV.dF g x h
theorem lf{x y:LV}(h:x.pure=true)(h':y.pure=true):∀g,(LV.aQ [x,y]).bl g=.aQ [x,y]:=fun g=>by
 simp only[LV.bl,eO,LV.dF g x h,LV.dF g y h']
theorem agj{x y z:LV}(h:x.pure=true)(h':y.pure=true)(h'':z.pure=true):∀g,(LV.aQ [x,y,z]).bl g=.aQ [x,y,z]:=fun g=>by
 simp only[LV.bl,eO,LV.dF g x h,LV.dF g y h',LV.dF g z h'']
theorem tx(l:List Nat):(dB l).pure=true:=bN eu 1 l
theorem t1(n:Nat):((n:Nat):Int).toNat=n:=rfl
theorem aqx{L:St}{α:Type}{e:α->LV}{ag:Bool}{bs:List Nat}{b sz len:Nat}{l:List α}{m:Bool}(he:fe e sz ag)(hb:L.heap b=some ⟨sz,l.map e,m⟩)(o9:bs.contains b=true)(hl:len<=l.length):
  bR (L.bo bs).heap (.ref b sz 0 len) (.list sz ((l.take len).map e)):=by
 have:=z6 (L:=L) (bs:=bs) (off:=0) (len:=len) hb o9 (bS he l) (by simp[hl]);rwa[gX,<-pU]at this
theorem oG{P:Program}{L:St}{t:Nat}{x y:LV}{blk:aL}(h:L.slot t=x)(hi:qo L.heap 0 x y)(hb:L.heap 0=some blk)(hm:blk.mt=true)(hp:aN blk.vals=true):qX P [.tmp t] L y blk :=
 ⟨[x],[y],L.heap,.cons h .nil,bn.le_refl _,.cons hi .nil,hb,hm,hp,rfl⟩
theorem awV{P:Program}{L:St}{blk:aL}(hb:L.heap 0=some blk)(hm:blk.mt=true)(hp:aN blk.vals=true):qX P [] L (.aQ []) blk :=
 ⟨[],[],L.heap,.nil,bn.le_refl _,.nil,hb,hm,hp,rfl⟩
theorem r1(f:Nat->Nat)(b sz off len:Nat):(LV.ref b sz off len).bl f=.ref (f b) sz off len:=rfl
theorem r2(f:Nat->Nat)(b sz i o:Nat):(LV.ax b sz i o).bl f=.ax (f b) sz i o:=rfl
theorem r3(f:Nat->Nat)(x:Value):(LV.v x).bl f=.v x:=rfl
theorem r4(d k:Nat):cQ d k=1000000+d*16+k:=rfl
section
variable {P:Program} {H:bn} {ρ:Operand->LV} {T E:TypeId} {x z:Operand} {b sz off len h:Nat} {k':IntKind} {ag:Bool}
theorem aq.vV(hx:ρ x=.ref b sz off len)(hT:P.underlying T=some (.slice E))(hE:aX P E sz ag)(fg:ρ z=.v (.int k' (h:Nat)))(h2:h<=len)(h0:0<len):
  aq P H ρ (.slice T x none (some z) none) (.ref b sz off h):=by
 have:=aq.vi (P:=P) (H:=H) (ρ:=ρ) (la:=none) (ha:=some z) (a:=0) (h:=h) hx hT hE (fun w hw=>by cases hw) (fun _=>rfl) (fun w hw=>by cases hw;exact⟨_,fg⟩) (fun h=>by cases h) aa h2 h0;simpa using this
end
end Go.Lg
namespace Go.Lg
theorem dU:(default:Nat)=0:=rfl
theorem m7(l:List Nat)(k:Nat):val (l.take (k+1))=val (l.take k)+4294967296^k*l.getD k 0:=by
 by_cases h:k<l.length
 ·exact anC h
 have h1:l.take (k+1)=l:=cW aa;have h2:l.take k=l:=cW aa;have h3:l.getD k 0=0:=by rw[bf,aaL aa];rfl
 rw[h1,h2,h3];simp
theorem zz(l:List Nat){k:Nat}(h:l.length<=k):val (l.take k)=val l:=by rw[cW h]
theorem ayL(l:List Nat)(k j x:Nat)(h:k<=j):(l.set j x).take k=l.take k:=by rw[List.take_set_of_le h]
theorem wx(l:List Nat)(k x:Nat)(h:k<l.length):val ((l.set k x).take (k+1))=val (l.take k)+4294967296^k*x:=by
 rw[m7,ayL _ _ _ _ (bA k),bf,anH h];rfl
theorem ja{l:List Nat}(h:bh l)(k x:Nat)(hx:x<4294967296):bh (l.set k x):=fun y hy=>by
 rcases List.mem_or_eq_of_mem_set hy with hy|rfl
 ·exact h y hy
 exact hx
theorem fi{l:List Nat}(h:bh l)(k:Nat):l.getD k 0<4294967296:=az2 h k
theorem amb(l:List Nat)(k x:Nat)(h:k<l.length):(l.set k x).getD k 0=x:=by
 rw[bf,anH h];rfl
theorem getD_set_ne(l:List Nat)(k j x:Nat)(h:k≠j):(l.set k x).getD j 0=l.getD j 0:=by
 rw[bf,bf,List.getElem?_set_ne h]
theorem uR(l:List Nat)(k:Nat)(h:l.length<=k):l.getD k 0=0:=by
 rw[bf,aaL h];rfl
theorem zZ(p s:Nat):p*(s%4294967296)+p*4294967296*(s/4294967296)=p*s:=by
 rw[dZ,<-di,Nat.mod_add_div]
theorem fv(n k:Nat):(ah n).getD k 0<4294967296:=fi (b7 n) k
theorem lJ{m n:Nat}(h:m<=n):(ah m).length<=(ah n).length:=by
 apply sq;have:=yj (b7 n);rw[bq]at this;omega
theorem pg{l:List Nat}(h:bh l){k:Nat}(hk:l.length<=k):val l<4294967296^k :=
 oK (yj h) (tZ aa hk)
theorem aed:ah 1=[1]:=rfl
theorem zD{n:Nat}(h0:0<n)(h:n<4294967296):ah n=[n]:=by
 rw[wm h0,fa h,we h];rfl
theorem pj{n:Nat}:(ah n).length<=1↔n<4294967296:=akG
theorem uN{n:Nat}:(ah n).length<=2↔n<18446744073709551616:=by
 rw[akG]
theorem val_two(x y:Nat):val [x,y]=x+4294967296*y:=by simp[val]
theorem abz{l:List Nat}(h:Can l)(aG:0<l.length):l.getD (l.length-1) 0≠0:=by
 have h1:l≠[]:=by rintro rfl;simp at aG
 have:=h h1;rw[ajq]at this;rw[bf,bO aa];exact this
end Go.Lg
namespace Go.Lg
theorem kY{l:List Nat}{k:Nat}(h:k<l.length):val (l.drop k)=l.getD k 0+4294967296*val (l.drop (k+1)):=by
 rw[yE h,val,bf,bO h];rfl
theorem amN{l:List Nat}{k x:Nat}(h:k<l.length):val ((l.set k x).drop k)=x+4294967296*val (l.drop (k+1)):=by
 rw[kY ga,amb _ _ _ h,List.drop_set_of_lt aa]
theorem aje{l:List Nat}(h:bh l){k j:Nat}(hk:l.length<=k+j):val (l.drop k)<4294967296^j :=
 pg (au2 h k) bm
theorem aak{l:List Nat}{k x:Nat}(h:k<l.length):val (l.set k x)+4294967296^k*l.getD k 0=val l+4294967296^k*x:=by
 induction l generalizing k with
 |nil=>simp at h
 |cons a l ih =>
  cases k with
  |zero=>simp[val];omega
  |succ k =>
   have:=ih (k:=k) ga;simp only[cd,val,iG,gx];have e1:4294967296^k*4294967296*l.getD k 0=4294967296*(4294967296^k*l.getD k 0):=by rw[er (4294967296^k),dZ]
   have e2:4294967296^k*4294967296*x=4294967296*(4294967296^k*x):=by rw[er (4294967296^k),dZ]
   rw[e1,e2];omega
theorem oZ(l:List Nat)(k:Nat)(h:k<=l.length):val l=val (l.take k)+4294967296^k*val (l.drop k):=by
 have:=aaI (l.take k) (l.drop k);rwa[List.take_append_drop,eE,jE h]at this
def jF(m n:Nat):Int:=if m<n then -1 else if n<m then 1 else 0
theorem ov{m n:Nat}(h:m<n):jF m n=-1:=by simp[jF,h]
theorem oE{m n:Nat}(h:n<m):jF m n=1:=by simp[jF,h];omega
theorem pI{m n:Nat}(h:m=n):jF m n=0:=by simp[jF,h]
theorem acE{m n:Nat}(h:(ah m).length<(ah n).length):m<n:=by
 have h1:=yj (b7 m);rw[bq]at h1;apply nR;intro h2;have:=lJ (Nat.le_of_not_lt h2);omega
theorem aeh{a b:List Nat}(ha:bh a){k:Nat}(hk:k<a.length)(jG:k<b.length)(hd:a.drop (k+1)=b.drop (k+1))(h:a.getD k 0<b.getD k 0):val a<val b:=by
 rw[oZ a k aa,oZ b k aa,kY hk,kY jG,hd];have h1:val (a.take k)<4294967296^k:=pg (sm ha k) bm;have h2:4294967296^k*(a.getD k 0+1)<=4294967296^k*b.getD k 0:=nH _ h;rw[di,di];rw[di]at h2;omega
theorem ak7{a b:List Nat}{k:Nat}(hk:k<a.length)(jG:k<b.length)(hd:a.drop (k+1)=b.drop (k+1))(h:a.getD k 0=b.getD k 0):a.drop k=b.drop k:=by
 rw[yE hk,yE jG,hd];rw[bf,bO hk,bf,bO jG]at h;simp only[vS]at h;rw[h]
theorem asO{a b:List Nat}{k:Nat}(hk:k<a.length)(jG:k<b.length)(hd:a.take k=b.take k)(h:a.getD k 0=b.getD k 0):a.take (k+1)=b.take (k+1):=by
 rw[tQ hk,tQ jG,hd];rw[bf,bO hk,bf,bO jG]at h;simp only[vS]at h;rw[h]
theorem akl{k c:Nat}{a b o:List Nat}(cf:k<o.length)(hv:val (o.take k)+4294967296^k*c=val (a.take k)+val (b.take k)){s:Nat}(hs:s=c+a.getD k 0+b.getD k 0):
  val ((o.set k (s%4294967296)).take (k+1))+4294967296^(k+1)*(s/4294967296)=val (a.take (k+1))+val (b.take (k+1)):=by
 rw[wx _ _ _ cf,m7 a,m7 b,gx];have h1:=zZ (4294967296^k) s;have h2:4294967296^k*s=4294967296^k*c+4294967296^k*a.getD k 0+4294967296^k*b.getD k 0:=by rw[hs,di,di]
 omega
theorem ass{c:Nat}{a b o:List Nat}(hba:b.length<=a.length)(cf:o.length=a.length+1)(bD:bh o)(hc:c<4294967296)(hv:val (o.take a.length)+4294967296^a.length*c=val (a.take a.length)+val (b.take a.length)):
  sF (o.set a.length c)=ah (val a+val b):=by
 rw[qw (ja bD _ _ hc)];congr 1;have h1:=wx o a.length c aa;rw[cW bm]at h1;rw[zz a (bA _),zz b hba]at hv;omega
theorem al4{k br:Nat}{a b o:List Nat}(cf:k<o.length)(hv:val (o.take k)+val (b.take k)=val (a.take k)+4294967296^k*br){y:Nat}(hy:y=br+b.getD k 0)(h:y<=a.getD k 0):
  val ((o.set k (a.getD k 0-y)).take (k+1))+val (b.take (k+1))=val (a.take (k+1))+4294967296^(k+1)*0:=by
 rw[wx _ _ _ cf,m7 a,m7 b];have h2:4294967296^k*a.getD k 0=4294967296^k*(a.getD k 0-y)+4294967296^k*br+4294967296^k*b.getD k 0:=by
  rw[<-di,<-di];congr 1;omega
 omega
theorem ans{k br:Nat}{a b o:List Nat}(cf:k<o.length)(hv:val (o.take k)+val (b.take k)=val (a.take k)+4294967296^k*br){y:Nat}(hy:y=br+b.getD k 0)(h:a.getD k 0<y)(hy2:y<=4294967296):
  val ((o.set k (4294967296+a.getD k 0-y)).take (k+1))+val (b.take (k+1))=val (a.take (k+1))+4294967296^(k+1)*1:=by
 rw[wx _ _ _ cf,m7 a,m7 b,gx];have h2:4294967296^k*4294967296+4294967296^k*a.getD k 0=4294967296^k*(4294967296+a.getD k 0-y)+4294967296^k*br+4294967296^k*b.getD k 0:=by
  rw[<-di,<-di,<-di];congr 1;omega
 omega
theorem amm{br:Nat}{a b o:List Nat}(eU:bh a)(bD:bh o)(cf:o.length=a.length)(uW:b.length<=a.length)(hle:val b<=val a)
  (hv:val (o.take a.length)+val (b.take a.length)=val (a.take a.length)+4294967296^a.length*br):sF o=ah (val a-val b):=by
 rw[qw bD];congr 1;rw[zz a (bA _),zz b uW,zz o aa]at hv;have h1:=yj bD;rw[cf]at h1
 cases br with
 |zero=>omega
 |succ n =>
  rw[Nat.mul_succ]at hv;omega
theorem apu{i j c x:Nat}{b o:List Nat}{v0:Nat}(cf:i+j<o.length)(hv:val o+4294967296^(i+j)*c=v0+4294967296^i*(x*val (b.take j))){s:Nat}
  (hs:s=c+(x*b.getD j 0+o.getD (i+j) 0)) :
  val (o.set (i+j) (s%4294967296))+4294967296^(i+(j+1))*(s/4294967296)=v0+4294967296^i*(x*val (b.take (j+1))):=by
 have h1:=aak (x:=s%4294967296) cf;have h2:=zZ (4294967296^(i+j)) s;have h3:4294967296^i*(x*val (b.take (j+1)))=4294967296^i*(x*val (b.take j))+4294967296^(i+j)*(x*b.getD j 0):=by
  rw[m7,di,di,jl];congr 1;rw[yY x,dZ]
 have h4:4294967296^(i+j)*s=4294967296^(i+j)*c+4294967296^(i+j)*(x*b.getD j 0)+4294967296^(i+j)*o.getD (i+j) 0:=by
  rw[hs,di,di];omega
 have h5:4294967296^(i+(j+1))=4294967296^(i+j)*4294967296:=by rw[<-Nat.add_assoc,gx]
 rw[h3,h5];omega
theorem akL{i c x:Nat}{a b o:List Nat}{v0:Nat}(_hi:i<a.length)(cf:i+b.length<o.length)(h0:o.getD (i+b.length) 0=0)(hx:x=a.getD i 0)(hv0:v0=val (a.take i)*val b)
  (hv:val o+4294967296^(i+b.length)*c=v0+4294967296^i*(x*val (b.take b.length))) :
  val (o.set (i+b.length) c)=val (a.take (i+1))*val b:=by
 have h1:=aak (x:=c) cf;rw[je]at hv;have h2:val (a.take (i+1))*val b=v0+4294967296^i*(x*val b):=by
  rw[m7,ep,hv0,hx,dZ]
 rw[h2];rw[h0]at h1;omega
theorem aj0{k d r:Nat}{a q:List Nat}(hk:k<a.length)(hq:q.length=a.length)(hv:val (q.drop (k+1))*d+r=val (a.drop (k+1))){s:Nat}(hs:s=r*4294967296+a.getD k 0):
  val ((q.set k (s/d)).drop k)*d+s%d=val (a.drop k):=by
 rw[amN aa,kY hk,<-hv,ep];have:=yT s d;rw[er (s/d)];rw[di,hs]at *
 have e:4294967296*val (q.drop (k+1))*d=4294967296*(val (q.drop (k+1))*d):=by rw[dZ]
 rw[e];omega
theorem aja{d r x:Nat}(hr:r<d)(hx:x<4294967296):(r*4294967296+x)/d<4294967296:=by
 rw[jZ aa];have:(r+1)*4294967296<=d*4294967296:=dT _ hr;rw[er 4294967296];omega
theorem aln{d r:Nat}{a q:List Nat}(hd:0<d)(hr:r<d)(hq:bh q)(hv:val (q.drop 0)*d+r=val (a.drop 0)):sF q=ah (val a/d)/\r=val a%d:=by
 rw[gX,gX]at hv;rw[qw hq,<-hv];refine⟨?_,?_⟩
 ·congr 1;rw[er,apN hd,we hr];rfl
 rw[er,Nat.mul_add_mod,fa hr]
theorem as3{k c p:Nat}{a o:List Nat}(cf:k<o.length)(hv:val (o.take k)+4294967296^k*c=val (a.take k)*p){s:Nat}(hs:s=a.getD k 0*p+c):
  val ((o.set k (s%4294967296)).take (k+1))+4294967296^(k+1)*(s/4294967296)=val (a.take (k+1))*p:=by
 rw[wx _ _ _ cf,m7 a,gx,ep];have h1:=zZ (4294967296^k) s;have h2:4294967296^k*s=4294967296^k*(a.getD k 0*p)+4294967296^k*c:=by rw[hs,di]
 have h3:4294967296^k*a.getD k 0*p=4294967296^k*(a.getD k 0*p):=by rw[dZ]
 omega
theorem axw{c p:Nat}{a o:List Nat}(cf:o.length=a.length+1)(hv:val (o.take a.length)+4294967296^a.length*c=val (a.take a.length)*p):val (o.set a.length c)=val a*p:=by
 have h1:=wx o a.length c aa;rw[cW bm]at h1;rw[zz a (bA _)]at hv;omega
def cx(n:Nat):Nat:=if n=0 then 0 else n.log2+1
theorem sc{n:Nat}:cx n=0↔n=0:=by unfold cx;split<;>simp_all
theorem qM{n k:Nat}:cx n<=k↔n<2^k:=by
 unfold cx;split
 ·rename_i h;subst h;simp[lM]
 rename_i h;rw[Nat.succ_le_iff,Nat.log2_lt h]
theorem afA{n k:Nat}:k<cx n↔2^k<=n:=by
 rw[<-Nat.not_le,qM,ahr]
theorem avQ{n:Nat}:cx n=1↔n=1:=by
 have h1:=qM (n:=n) (k:=1);have h0:=sc (n:=n);simp only[Nat.pow_one]at h1;omega
theorem aAu{n k:Nat}(h1:2^k<=n)(h2:n<2^(k+1)):cx n=k+1:=by
 have a:=afA.2 h1;have b:=qM.2 h2;omega
theorem aen{n k:Nat}(h:2^k<=n):cx n=k+cx (n/2^k):=by
 have hp:0<2^k:=lM aa;have h0:n/2^k≠0:=by
  intro e;rw[Nat.div_eq_zero_iff]at e;omega
 have h1:0<cx (n/2^k):=by
  rcases adf (cx (n/2^k))with e|e
  ·exact absurd (sc.1 e) h0
  exact e
 obtain⟨j,hj⟩:∃j,cx (n/2^k)=j+1:=⟨_,(Nat.sub_add_cancel h1).symm⟩;have h2:2^j<=n/2^k:=afA.1 aa;have h3:n/2^k<2^(j+1):=qM.1 aa;rw[th hp,<-jl]at h2;rw[jZ hp,<-jl]at h3;rw[hj];have:=aAu (n:=n) (k:=k+j) (by rwa[td k]) (by rwa[td k,afH]);omega
theorem auB{l:List Nat}(hL:bh l)(h:Can l)(hl:0<l.length):cx (val l)=32*(l.length-1)+cx (l.getD (l.length-1) 0):=by
 have aG:=abz h hl;have hp:0<4294967296^(l.length-1):=lM aa;have hd:val (l.drop (l.length-1))=l.getD (l.length-1) 0:=by
  rw[kY aa,show l.length-1+1=l.length by omega,List.drop_length];simp[val]
 have hs:=oZ l (l.length-1) aa;have ht:val (l.take (l.length-1))<4294967296^(l.length-1):=pg (sm hL _) az;rw[hd]at hs;have ajF:(2:Nat)^(32*(l.length-1))=4294967296^(l.length-1):=by rw[Nat.pow_mul]
 have jS:4294967296^(l.length-1)*1<=4294967296^(l.length-1)*l.getD (l.length-1) 0:=nH _ aa;rw[aen (k:=32*(l.length-1)) (by rw[ajF];omega),ajF];congr 2;rw[hs,td,apN hp,we ht];rfl
end Go.Lg
namespace Go.Lg
section
variable {a b s x c:Nat}
theorem aoV(hs:s<64)(h:a*2^s<18446744073709551616):lz .shl .u64 (a:Nat) (s:Nat)=some (.int .u64 ((a*2^s:Nat):Int)):=by
 have e:min ((s:Int)).toNat IntKind.u64.bits=s:=by show min s 64=s;omega
 have e2:(a:Int)*2^s=((a*2^s:Nat):Int):=az;simp only[lz];rw[if_neg aa,e,e2,IntWalk.u64_in _ aa]
theorem aaT{k:IntKind}{m:Nat}(hm:m<=k.bits):lz .shr k (a:Nat) (m:Nat)=some (.int k ((a/2^m:Nat):Int)):=by
 have e:min ((m:Int)).toNat k.bits=m:=by show min m k.bits=m;omega
 simp only[lz];rw[if_neg aa,e,afn _ (Int.pow_nonneg aa)];congr 2
theorem orV(hc:c<2^s)(h:x*2^s+c<18446744073709551616):cj .or .u64 (c:Nat) ((x*2^s:Nat):Int)=some (.int .u64 ((x*2^s+c:Nat):Int)):=by
 have e:(oY IntKind.u64.bits (c:Int) ||| oY IntKind.u64.bits ((x*2^s:Nat):Int)).toNat=x*2^s+c:=by
  rw[vC,vC,ags,vu,vu];have e1:x*2^s%2^IntKind.u64.bits=x*2^s:=fa (by show _<18446744073709551616;omega);have e2:c%2^IntKind.u64.bits=c:=fa (by show _<18446744073709551616;omega);rw[e1,e2,alx];have:=afO (i:=s) (b:=c) hc x;rw[af9]at this;exact this.symm
 simp only[cj,e];rw[IntWalk.u64_in _ aa]
theorem tbl{s:ByteArray}(h:(eH 256).all (fun n=>s[n]?==some (UInt8.ofNat (cx n)))=true){n:Nat}(hn:n<256):s[n]?=some (UInt8.ofNat (cx n)):=by
 rw[List.all_eq_true]at h;simpa using h n (by simpa using hn)
end
def eZ:Nat->Nat->List Nat
 |0,_=>[]
 |k+1,m=>m%4294967296::eZ k (m/4294967296)
theorem zF:∀k m,(eZ k m).length=k
 |0,_=>rfl
 |k+1,m=>by simp[eZ,zF k]
theorem air:∀k m,bh (eZ k m)
 |0,_=>fun x h=>by simp[eZ]at h
 |k+1,m=>fun x h=>by
   simp only[eZ,fJ]at h;rcases h with rfl|h
   ·omega
   exact air k _ x h
theorem aeB:∀{o:List Nat} {k:Nat},bh o->o.length=k->o=eZ k (val o)
 | [],k,_,h=>by subst h;rfl
 |x::xs,k,hl,h=>by
   subst h;have hx:=hl x az;have ih:=aeB (o:=xs) (k:=xs.length) (fun y hy=>hl y (by simp[hy])) rfl;simp only[dO,eZ,val];have e1:(x+4294967296*val xs)%4294967296=x:=aa;have e2:(x+4294967296*val xs)/4294967296=val xs:=aa;rw[e1,e2,<-ih]
theorem ahU:∀{k m:Nat},m<4294967296^k->val (eZ k m)=m
 |0,m,h=>by simp at h;subst h;rfl
 |k+1,m,h=>by
   simp only[eZ,val];rw[ahU (k:=k) (by rw[jZ aa];rwa[gx]at h)];omega
section
variable {P:Program} {ρ:Operand->LV} {α:Type} {e:α->LV}
theorem cH.ayS{T E:TypeId}{x y:Operand}{d sz:Nat}{ag:Bool}{z a b:α}(he:fe e sz ag)(hT:P.underlying T=some (.slice E))(hz:ck P E (e z))(hE:aX P E sz ag)(hx:ρ x=e a)(hy:ρ y=e b)(cG:0<sz)(fV:sz<=1000):
  cH P ρ d (.buildSlice T 2 #[(0,x),(1,y)]) (.ref d sz 0 2) ⟨sz,[a,b].map e,true⟩:=by
 have:=cH.lit (P:=P) (ρ:=ρ) (d:=d) (T:=T) (n:=2) (ps:=#[(0,x),(1,y)]) hT hz (by rw[he.isAgg];exact hE) (he.aj z) aa aa cG (by
  intro p hp;simp only[fJ,jN,or_false]at hp;rcases hp with rfl|rfl
  ·refine⟨by simp,?_,by rw[hx];exact LV.eg (he.pure _),by rw[hx];exact LV.dV (he.pure _)⟩;simp[lay,hx,he.aj,he.isAgg]
  refine⟨by simp,?_,by rw[hy];exact LV.eg (he.pure _),by rw[hy];exact LV.dV (he.pure _)⟩;simp[lay,hy,he.aj,he.isAgg])
 simpa[jf,hx,hy,aJ]using this
end
section
variable {P:Program} {n:Nat} {W w:World} {X:XS} {Z0:Nat->Prop} {L:St} {a:Act} {K:St->Prop} {Q:gI->St->Prop}
theorem alT{s0 d1 d2 sz:Nat}{l:List LV}{T E ty vq U:TypeId}{pos pos':String}{af vY:Array Edge}(h0:L.slot s0=.list sz l)(hT:P.underlying T=some (.slice E))
  (hK:∀b:Bool,(b=true->l=[])->Q .normal ((L.put (some d1) (.list sz l)).put (some d2) (.v (.bool b)))) :
  ∀n W X Z0 a w,dM n W X Z0 L a w->ig n (.region 0 [Oper.mk (some d1) (.move (.tmp s0)) ty pos af none,Oper.mk (some d2) (.binOp .eql T (.tmp d1) (.const (.slice none 0 0)) U) vq pos' vY none].toArray false)=true ->
   ∀id,(Code.region id [Oper.mk (some d1) (.move (.tmp s0)) ty pos af none,Oper.mk (some d2) (.binOp .eql T (.tmp d1) (.const (.slice none 0 0)) U) vq pos' vY none].toArray false).wp P (yF n W X Z0 Q) a w:=by
 intro n W X Z0 a w hs hd id;simp only[ig,List.all_cons,List.all_nil,Bool.and_true,Bool.and_eq_true,decide_eq_true_eq]at hd;refine wp_region_list ?_;have h1:=yD (P:=P) (dr:=false) (ops:=[Oper.mk (some d1) (.move (.tmp s0)) ty pos af none,Oper.mk (some d2) (.binOp .eql T (.tmp d1) (.const (.slice none 0 0)) U) vq pos' vY none].toArray)
  (o:=Oper.mk (some d1) (.move (.tmp s0)) ty pos af none) hs (L':=L.put (some d1) (.list sz l))
  (.val (r:=.list sz l) (fr:=[]) (H1:=L.heap) rfl (bn.le_refl _) (fun _ _ h=>by cases h) (.pure (by have:=aq.move (P:=P) (H:=L.heap) (ρ:=L.ev) (.tmp s0);rwa[show L.ev (.tmp s0)=LV.list sz l from h0]at this)) rfl)
  (fun t ht=>by cases ht;exact hd.1)
  (K:=wpList P [Oper.mk (some d1) (.move (.tmp s0)) ty pos af none,Oper.mk (some d2) (.binOp .eql T (.tmp d1) (.const (.slice none 0 0)) U) vq pos' vY none].toArray (yF n W X Z0 Q)
   [Oper.mk (some d2) (.binOp .eql T (.tmp d1) (.const (.slice none 0 0)) U) vq pos' vY none]) (Q:=yF n W X Z0 Q) (fun a' w' ji=>?_)
 ·unfold wpList;split
  ·rename_i h;rw[if_pos h]at h1;exact .inl h1
  rename_i h;rw[if_neg h]at h1;exact h1
 obtain⟨cZ,a6,μ,Z,hc,hr⟩:=ji;have e1:=hr d1;rw[fu,if_pos rfl]at e1;have e2:=e1.2 rfl;simp only[ao]at e2;obtain⟨ad,len,cap,q1,q2,q3,q4,q5⟩:=e2;simp only[dq,and_true]at q1;have eC:a'.eval (.tmp d1)=.slice ad len cap:=q1;have hw:Region.wanted (Oper.mk (some d2) (.binOp .eql T (.tmp d1) (.const (.slice none 0 0)) U) vq pos' vY none) (yielded [Oper.mk (some d1) (.move (.tmp s0)) ty pos af none,Oper.mk (some d2) (.binOp .eql T (.tmp d1) (.const (.slice none 0 0)) U) vq pos' vY none].toArray a'.tmps)=true:=rfl;unfold wpList;rw[if_pos hw];left;have de:(execOp a'.eval (Oper.mk (some d2) (.binOp .eql T (.tmp d1) (.const (.slice none 0 0)) U) vq pos' vY none)).run P w'=.ok (.value (.bool ad.isNone)) w':=by
  have hv:a'.eval (.const (.slice none 0 0))=.slice none 0 0:=rfl;simp only[execOp,eC,hv];simp[eqGuard,binOp,run_equal_slice_nil w' T E ad len cap hT]
 unfold Oper.wp;rw[de,Oper.upon_value];refine⟨_,hK ad.isNone ?_,by rw[put_defers];exact cZ,by rw[lG];exact a6,μ,Z,by rw[gD];exact hc,lI (fun t ht=>by cases ht;rw[a6];exact hd.2) hr aC.bool⟩;intro hb;rcases q4 with q4|⟨blk,off,c,T',fz,part,rest,g1,_⟩
 ·exact q4
 rw[g1]at hb;cases hb
end
section
variable {R V p vt v2 vl top u2 rl:Nat}
theorem azK(hV:V=(vt*4294967296+v2)*p+vl)(hR:R=(top*4294967296+u2)*p+rl)(hrl:rl<p)(tK:u2<4294967296)(pB:0<vt):R/V<=top/vt:=by
 rw[th pB];have h1:R/V*V<=R:=Nat.div_mul_le_self R V;have h2:R/V*(vt*4294967296*p)<=R/V*V:=nH _ (by rw[hV,ep];omega);have h3:R<(top+1)*4294967296*p:=by
  rw[hR];have:(top*4294967296+u2+1)*p<=(top+1)*4294967296*p:=dT _ aa;rw[ep _ 1]at this;omega
 have h4:R/V*vt*(4294967296*p)<(top+1)*(4294967296*p):=by
  have e1:R/V*vt*(4294967296*p)=R/V*(vt*4294967296*p):=by simp only[dZ]
  have e2:(top+1)*(4294967296*p)=(top+1)*4294967296*p:=by simp only[dZ]
  rw[e1,e2];omega
 exact Nat.le_of_lt_succ (apV h4)
theorem asJ{x rest:Nat}(hV:V=(vt*4294967296+v2)*p+vl)(hR:R=(top*4294967296+u2)*p+rl)(hrl:rl<p)(gQ:0<V)
  (hx:x*vt+rest=top) (h:rest*4294967296+u2<x*v2):R/V<x:=by
 rw[jZ gQ];have h1:x*((vt*4294967296+v2)*p)<=x*V:=nH _ (by rw[hV];omega);have h2:top*4294967296+u2+1<=x*(vt*4294967296+v2):=by
  rw[<-hx,ep,di,dZ];omega
 have h3:(top*4294967296+u2+1)*p<=x*(vt*4294967296+v2)*p:=dT _ h2;rw[ep _ 1]at h3;rw[dZ]at h3;omega
theorem af8{x rest:Nat}(hV:V=(vt*4294967296+v2)*p+vl)(hR:R=(top*4294967296+u2)*p+rl)(rD:vl<p)(pB:0<vt)(gQ:0<V)
  (hx:x*vt+rest=top) (zM:x<=4294967296) (h:x*v2<=rest*4294967296+u2):x<=R/V+1:=by
 cases x with
 |zero=>exact Nat.zero_le _
 |succ y =>
  have:y<=R/V:=by
   rw[th gQ];have h1:(y+1)*(vt*4294967296+v2)<=top*4294967296+u2:=by
    rw[<-hx,di,ep _ rest,<-dZ];omega
   have h2:(y+1)*(vt*4294967296+v2)*p<=(top*4294967296+u2)*p:=dT _ h1;have h3:y*vl<=y*p:=nH _ (sO rD);have h4:y*p<=4294967296*p:=dT _ aa;have h5:4294967296*p<=(vt*4294967296+v2)*p:=dT _ aa;have h6:y*V=y*(vt*4294967296+v2)*p+y*vl:=by rw[hV,di,dZ]
   have h7:(y+1)*(vt*4294967296+v2)*p=y*(vt*4294967296+v2)*p+(vt*4294967296+v2)*p:=by rw[ep,ep,vI]
   omega
  omega
theorem aA2{un u1:Nat}(hV:V=(vt*4294967296+v2)*p+vl)(hR:R=((un*4294967296+u1)*4294967296+u2)*p+rl)(rD:vl<p)(hv2:v2<4294967296)(xk:R<V*4294967296):un<=vt:=by
 apply nR;intro h;have h1:(vt+1)*4294967296<=un*4294967296:=aa;have h2:(vt*4294967296+v2+1)*4294967296<=(un*4294967296+u1)*4294967296+u2:=by
  have:(vt*4294967296+v2+1)<=un*4294967296+u1:=aa;exact bW (dT 4294967296 this) (Nat.le_add_right _ _)
 have h3:(vt*4294967296+v2+1)*4294967296*p<=((un*4294967296+u1)*4294967296+u2)*p:=dT _ h2;have h4:V<=(vt*4294967296+v2+1)*p:=by rw[hV,ep _ 1];omega
 have h5:V*4294967296<=(vt*4294967296+v2+1)*p*4294967296:=dT _ h4;have h6:(vt*4294967296+v2+1)*p*4294967296=(vt*4294967296+v2+1)*4294967296*p:=by rw[aqS]
 omega
theorem aqz{x rest un u1:Nat}(hx:x*vt+rest=un*4294967296+u1)(hun:un<=vt)(zn:u1<4294967296)(hv2:v2<4294967296)(hr:4294967296<=rest):x<4294967296/\x*v2<=rest*4294967296+u2:=by
 have x5:x<4294967296:=by
  apply nR;intro h;have h1:4294967296*vt<=x*vt:=dT vt aa;omega
 refine⟨x5,?_⟩;have h1:x*v2<=4294967296*4294967296:=rF (sO x5) (sO hv2);have h2:4294967296*4294967296<=rest*4294967296:=dT _ hr;omega
end
theorem axf{l:List Nat}{k:Nat}(h:val l<4294967296^k):∀p,k<=p->l.getD p 0=0:=fun p hp=>by
 apply nR;intro h0;have bT:p<l.length:=by
  apply nR;intro hh;exact h0 (uR l p aa)
 have h1:=oZ l p aa;rw[kY bT]at h1;have h2:4294967296^k<=4294967296^p:=tZ aa hp;have h3:4294967296^p*1<=4294967296^p*(l.getD p 0+4294967296*val (l.drop (p+1))):=nH _ aa;omega
theorem ab1:∀{l:List Nat},(∀p,l.getD p 0=0)->val l=0
 | [],_=>rfl
 |x::xs,h=>by
   have h0:x=0:=by simpa using h 0
   have:=ab1 (l:=xs) (fun p=>by simpa using h (p+1));simp[val,h0,this]
theorem abC(l:List Nat)(k p:Nat):(l.drop k).getD p 0=l.getD (k+p) 0:=by
 rw[bf,bf,List.getElem?_drop]
theorem axY{l:List Nat}{k:Nat}(hl:bh l)(h:∀p,k<=p->l.getD p 0=0):val l<4294967296^k:=by
 by_cases hk:k<=l.length
 ·rw[oZ l k hk,ab1 (l:=l.drop k) (fun p=>by rw[abC];exact h _ aa),uA,jK];exact pg (sm hl k) bm
 exact pg hl aa
theorem auX{l:List Nat}{k:Nat}(hk:k+2<l.length)(hz:∀p,k+3<=p->l.getD p 0=0):
  val l=((l.getD (k+2) 0*4294967296+l.getD (k+1) 0)*4294967296+l.getD k 0)*4294967296^k+val (l.take k):=by
 have h3:val (l.drop (k+2+1))=0:=ab1 (fun p=>by rw[abC];exact hz _ aa);rw[oZ l k aa,kY aa,kY (k:=k+1) aa,kY (k:=k+1+1) aa,h3,er (4294967296^k),td,show k+1+1=k+2 from rfl];congr 2;omega
theorem azj{l:List Nat}{k:Nat}(hk:k+2=l.length):val l=(l.getD (k+1) 0*4294967296+l.getD k 0)*4294967296^k+val (l.take k):=by
 have h3:val (l.drop (k+1+1))=0:=by rw[iP aa];rfl
 rw[oZ l k aa,kY aa,kY (k:=k+1) aa,h3,er (4294967296^k),td];congr 2;omega
theorem ar5{i j c br x:Nat}{v ul:List Nat}{v0:Nat}(iN:i+j<ul.length)(eB:bh ul)(iC:br<=1)
  (hv:val ul+4294967296^j*(x*val (v.take i))=v0+4294967296^(i+j)*(c+br)) {c1 d:Nat} (rv:c1=c+x*v.getD i 0)
  (hd:d=(18446744073709551616+(18446744073709551616+ul.getD (i+j) 0-c1%4294967296)%18446744073709551616-br)%18446744073709551616) :
  d/9223372036854775808<=1/\bh (ul.set (i+j) (d%4294967296)) /\
   val (ul.set (i+j) (d%4294967296))+4294967296^j*(x*val (v.take (i+1)))=v0+4294967296^(i+1+j)*(c1/4294967296+d/9223372036854775808):=by
 have hu:=fi eB (i+j);refine⟨aa,ja eB _ _ aa,?_⟩;have h1:=aak (x:=d%4294967296) iN;have h2:d%4294967296+c1%4294967296+br=ul.getD (i+j) 0+4294967296*(d/9223372036854775808):=aa;have h3:4294967296^(i+j)*(d%4294967296)+4294967296^(i+j)*(c1%4294967296)+4294967296^(i+j)*br=4294967296^(i+j)*ul.getD (i+j) 0+4294967296^(i+j)*4294967296*(d/9223372036854775808):=by
  rw[<-di,<-di,h2,di,dZ]
 have h4:=zZ (4294967296^(i+j)) c1;have h5:4294967296^(i+j)*c1=4294967296^(i+j)*c+4294967296^j*(x*(4294967296^i*v.getD i 0)):=by
  rw[rv,di,jl];congr 1;simp only[dZ,yY,er]
 have h6:4294967296^(i+1+j)=4294967296^(i+j)*4294967296:=by rw[afH,gx]
 rw[m7,di x,di,h6,di];rw[di]at hv;omega
theorem ajs{j n c br x t:Nat}{ul:List Nat}{V v0:Nat}(iN:n+j<ul.length)(eB:bh ul)(iC:br<=1)(hc:c<4294967296)
  (hv:val ul+4294967296^j*(x*V)=v0+4294967296^(n+j)*(c+br)) (ht:t=ul.getD (n+j) 0) {d:Nat}
  (hd:d=(18446744073709551616+(18446744073709551616+t-c)%18446744073709551616-br)%18446744073709551616) :
  bh (ul.set (n+j) (d%4294967296))/\d/9223372036854775808<=1 /\
   val (ul.set (n+j) (d%4294967296))+4294967296^j*(x*V)=v0+4294967296^(n+j+1)*(d/9223372036854775808):=by
 have hu:=fi eB (n+j);refine⟨ja eB _ _ aa,aa,?_⟩;have h1:=aak (x:=d%4294967296) iN;have h2:d%4294967296+c+br=t+4294967296*(d/9223372036854775808):=aa;have h3:4294967296^(n+j)*(d%4294967296)+4294967296^(n+j)*c+4294967296^(n+j)*br=4294967296^(n+j)*t+4294967296^(n+j)*4294967296*(d/9223372036854775808):=by
  rw[<-di,<-di,h2,di,dZ]
 rw[gx];rw[di]at hv;rw[<-ht]at h1;omega
theorem arW{i j c:Nat}{v ul:List Nat}{v0:Nat}(iN:i+j<ul.length)(eB:bh ul)(hv:val ul+4294967296^(i+j)*c=v0+4294967296^j*val (v.take i)){s:Nat}(hs:s=c+(ul.getD (i+j) 0+v.getD i 0)):
  bh (ul.set (i+j) (s%4294967296))/\val (ul.set (i+j) (s%4294967296))+4294967296^(i+1+j)*(s/4294967296)=v0+4294967296^j*val (v.take (i+1)):=by
 refine⟨ja eB _ _ aa,?_⟩;have h1:=aak (x:=s%4294967296) iN;have h2:=zZ (4294967296^(i+j)) s;have h3:4294967296^(i+j)*s=4294967296^(i+j)*c+4294967296^(i+j)*ul.getD (i+j) 0+4294967296^j*(4294967296^i*v.getD i 0):=by
  rw[hs,di,di,jl];simp only[dZ,yY,er];omega
 have h6:4294967296^(i+1+j)=4294967296^(i+j)*4294967296:=by rw[afH,gx]
 rw[m7,di,h6];omega
end Go.Lg
namespace Go.Lg
theorem pP(k:Nat):0<4294967296^k:=lM aa
theorem adr{ul:List Nat}{V n j:Nat}(hVn:V<4294967296^n)(bT:val ul<V*4294967296^(j+1)):∀p,n+j+1<=p->ul.getD p 0=0:=by
 apply axf;have h1:V*4294967296^(j+1)<=4294967296^n*4294967296^(j+1):=dT _ (sO hVn);rw[<-jl]at h1;exact oK bT h1
theorem ag6{ul:List Nat}{V n j:Nat}(hn:(ah V).length=n+2)(iN:n+2+j<ul.length)(eB:bh ul)(bT:val ul<V*4294967296^(j+1)):
  ∃vl rl,vl<4294967296^n/\rl<4294967296^n/\V=((ah V).getD (n+1) 0*4294967296+(ah V).getD n 0)*4294967296^n+vl /\
   val ul/4294967296^j=((ul.getD (n+2+j) 0*4294967296+ul.getD (n+1+j) 0)*4294967296+ul.getD (n+j) 0)*4294967296^n+rl /\
   val ul/4294967296^j<V*4294967296:=by
 have hVn:V<4294967296^(n+2):=pS aa;have hz:=adr hVn bT;have h1:=azj (l:=ah V) (k:=n) aa;have h2:=auX (l:=ul) (k:=n+j) aa (fun p hp=>hz p aa);rw[bq]at h1;refine⟨val ((ah V).take n),val (ul.take (n+j))/4294967296^j,pg (sm (b7 V) _) bm,?_,h1,?_,?_⟩
 ·rw[jZ (pP j),<-jl];exact pg (sm eB _) bm
 ·have e1:n+j+2=n+2+j:=aa;have e2:n+j+1=n+1+j:=aa;rw[e1,e2]at h2;rw[h2,jl,<-dZ,td,Nat.add_mul_div_right _ _ (pP j),td]
 rw[jZ (pP j)];rw[gx]at bT;have e:V*4294967296*4294967296^j=V*(4294967296^j*4294967296):=by rw[dZ,er 4294967296]
 rw[e];exact bT
section
variable {ul ul0:List Nat} {V n j x:Nat}
theorem atq(h:val ul+4294967296^j*(x*V)=val ul0)(hV:0<V):x<=val ul0/4294967296^j/V:=by
 rw[th hV,th (pP j),er _ (4294967296^j)];omega
theorem avM(h:val ul+4294967296^j*(x*V)=val ul0+4294967296^(n+j+1))(bT:val ul<4294967296^(n+j+1))(hV:0<V):val ul0/4294967296^j/V<x:=by
 rw[jZ hV,jZ (pP j),er _ (4294967296^j)];omega
theorem avU{ul3:List Nat}{c:Nat}(hx:0<x)(hxV:4294967296^j*((x-1)*V)<=val ul0)(h:val ul+4294967296^j*(x*V)=val ul0+4294967296^(n+j+1))(iN:n+j<ul3.length)(pW:bh ul3)(hz:∀p,n+j+1<=p->ul3.getD p 0=0)
  (hc:c<=1) (h3:val ul3+4294967296^(n+j)*c=val ul+4294967296^j*V) {t:Nat} (ht:t=ul3.getD (n+j) 0) :
  bh (ul3.set (n+j) ((t+c)%4294967296))/\val (ul3.set (n+j) ((t+c)%4294967296))+4294967296^j*((x-1)*V)=val ul0:=by
 have hs:=oZ ul3 (n+j) aa;rw[kY iN,ab1 (l:=ul3.drop (n+j+1)) (fun p=>by rw[abC];exact hz _ aa),uA,jK,<-ht]at hs;have vN:val (ul3.take (n+j))<4294967296^(n+j):=pg (sm pW _) bm;have xd:=fi pW (n+j);rw[<-ht]at xd;obtain⟨y,rfl⟩:∃y,x=y+1:=⟨x-1,aa⟩;rw[agc]at *
 have e1:4294967296^j*((y+1)*V)=4294967296^j*(y*V)+4294967296^j*V:=by rw[ep,vI,di]
 rw[e1]at h;have h4:val (ul3.take (n+j))+4294967296^(n+j)*(t+c)=(val ul0-4294967296^j*(y*V))+4294967296^(n+j)*4294967296:=by
  rw[di,<-gx];omega
 have h5:4294967296<=t+c:=by
  apply nR;intro hh;have:4294967296^(n+j)*(t+c+1)<=4294967296^(n+j)*4294967296:=nH _ aa;rw[di _ (t+c)]at this;omega
 have h6:t+c=4294967296:=aa;rw[h6]at h4 ⊢;refine⟨ja pW _ _ aa,?_⟩;have h7:=aak (x:=4294967296%4294967296) iN;rw[<-ht,apG,uA,jK]at h7;rw[apG];omega
theorem alz{ql:List Nat}{U0:Nat}(hV:0<V)(hx:x=val ul0/4294967296^j/V)(h:val ul+4294967296^j*(x*V)=val ul0)(hj:j<ql.length)
  (hv:val ul0+V*4294967296^(j+1)*val (ql.drop (j+1))=U0) :
  val ul+V*4294967296^j*val ((ql.set j x).drop j)=U0/\val ul<V*4294967296^j:=by
 constructor
 ·rw[amN hj,<-hv,<-h,di];have e1:V*4294967296^j*x=4294967296^j*(x*V):=by simp only[dZ,yY,er]
  have e2:V*4294967296^j*(4294967296*val (ql.drop (j+1)))=V*4294967296^(j+1)*val (ql.drop (j+1)):=by
   rw[gx];simp only[dZ]
  rw[e1,e2];omega
 have h1:val ul0/4294967296^j<(x+1)*V:=by
  rw[<-jZ hV,hx];omega
 rw[jZ (pP j)]at h1;have e:(x+1)*V*4294967296^j=4294967296^j*(x*V)+V*4294967296^j:=by
  rw[ep,ep,vI,er (x*V)]
 rw[e]at h1;omega
end
theorem aAX{s:Nat}(hs:s<32):2^s<=2147483648:=tZ (n:=2) aa (show s<=31 by omega)
theorem aBk{top:Nat}(h0:0<top)(h:top<4294967296):2147483648<=top*2^(32-cx top)/\top*2^(32-cx top)<4294967296:=by
 have h1:cx top<=32:=qM.2 h;have h2:1<=cx top:=by
  rcases adf (cx top)with e|e
  ·exact absurd (sc.1 e) aa
  exact e
 have h3:2^(cx top-1)<=top:=afA.1 aa;have h4:top<2^cx top:=qM.1 (bA _);constructor
 ·have:=dT (2^(32-cx top)) h3;rw[<-jl,show cx top-1+(32-cx top)=31 by omega]at this;exact this
 have:=afo h4 (lM (n:=32-cx top) (show 0<2 by omega));rw[<-jl,show cx top+(32-cx top)=32 by omega]at this;exact this
theorem amE{Bv n s:Nat}(hn:(ah Bv).length=n+1)(hs:s=32-cx ((ah Bv).getD n 0)):s<32/\(ah (Bv*2^s)).length=n+1/\2147483648*4294967296^n<=Bv*2^s/\Bv*2^s<4294967296^(n+1):=by
 have aG:=abz (abp Bv) (by omega:0<(ah Bv).length);rw[hn,agc]at aG;have xR:=fv Bv n;obtain⟨h1,h2⟩:=aBk (qa aG) xR;rw[<-hs]at h1 h2;have hv:Bv=4294967296^n*(ah Bv).getD n 0+val ((ah Bv).take n):=by
  have:=oZ (ah Bv) n aa;rw[kY aa,show (ah Bv).drop (n+1)=[] from iP aa,bq]at this;simp only[val,uA,jK]at this;omega
 have vN:val ((ah Bv).take n)<4294967296^n:=pg (sm (b7 Bv) _) bm;have jS:2147483648*4294967296^n<=Bv*2^s:=by
  have:=nH (4294967296^n) h1;have e:4294967296^n*((ah Bv).getD n 0*2^s)<=Bv*2^s:=by
   rw[<-dZ];exact dT _ aa
  rw[er]at this;omega
 have bT:Bv*2^s<4294967296^(n+1):=by
  have hp:0<2^s:=lM aa;have e1:Bv<4294967296^n*((ah Bv).getD n 0+1):=by rw[di];omega
  have e2:=afo e1 hp;have e3:(ah Bv).getD n 0*2^s+2^s<=4294967296:=by
   have oV:s<=32:=aa;have hd:4294967296=2^(32-s)*2^s:=by rw[<-jl,show 32-s+s=32 by omega]
   rw[hd]at h2 ⊢;have:=apV h2;have:=dT (2^s) this;rw[Nat.succ_mul]at this;exact this
  rw[dZ,ep,vI]at e2;have e4:=nH (4294967296^n) e3;rw[gx];omega
 refine⟨?_,?_,jS,bT⟩
 ·rcases adf (cx ((ah Bv).getD n 0))with e|e
  ·exact absurd (sc.1 e) aG
  omega
 have h3:=sq bT;have h4:n<(ah (Bv*2^s)).length:=by
  apply nR;intro hh;have:=pS (n:=Bv*2^s) (k:=n) aa;have:=dT (4294967296^n) (show 1<=2147483648 by omega);omega
 omega
theorem aoo{V n:Nat}(hn:(ah V).length=n+1)(jS:2147483648*4294967296^n<=V):2147483648<=(ah V).getD n 0:=by
 have hv:=oZ (ah V) n aa;rw[kY aa,show (ah V).drop (n+1)=[] from iP aa,bq]at hv;simp only[val,uA,jK]at hv;have vN:val ((ah V).take n)<4294967296^n:=pg (sm (b7 V) _) bm;apply nR;intro hh;have:=nH (4294967296^n) (show (ah V).getD n 0+1<=2147483648 by omega);rw[di,er _ 2147483648]at this;omega
theorem arY{A Bv s n m:Nat}(hs:s<32)(hm:(ah A).length=m)(iz:n+1<=m)(jS:2147483648*4294967296^n<=Bv*2^s):A*2^s<Bv*2^s*4294967296^(m+1-(n+1))/\A*2^s<4294967296^(m+1):=by
 have hA:A<4294967296^m:=pS aa;have hp:=aAX hs;have h1:A*2^s<4294967296^m*2147483648:=oK (afo hA (lM aa)) (nH _ hp);constructor
 ·have h2:=dT (4294967296^(m+1-(n+1))) jS;rw[dZ,<-jl,show n+(m+1-(n+1))=m by omega]at h2;omega
 rw[gx];exact aiC h1 (Nat.mul_lt_mul_of_pos_left aa (pP m))
theorem ami{A Bv s:Nat}{ul ql:List Nat}(hB:0<Bv)(h:val ul+Bv*2^s*val ql=A*2^s)(bT:val ul<Bv*2^s):val ql=A/Bv/\val ul=A%Bv*2^s:=by
 have hp:0<2^s:=lM aa;have h1:val ul=A*2^s%(Bv*2^s):=by
  rw[<-h,Nat.add_mul_mod_self_left,fa bT]
 have h2:val ql=A*2^s/(Bv*2^s):=by
  rw[<-h,Nat.add_mul_div_left _ _ (by exact sv hB hp),we bT,fW]
 rw[anP]at h1;rw[Nat.mul_div_mul_right _ _ hp]at h2;exact⟨h2,h1⟩
theorem ae4{i s:Nat}{w o:List Nat}(hi:i<w.length)(hs:s<32)(hd:w.getD i 0=o.getD i 0)(hv:2^s*val (w.take i)=val (o.take i)+4294967296^i*(o.getD i 0%2^s)){y:Nat}(hy:y=o.getD i 0/2^s+o.getD (i+1) 0%2^s*2^(32-s)):
  2^s*val ((w.set i y).take (i+1))=val (o.take (i+1))+4294967296^(i+1)*(o.getD (i+1) 0%2^s):=by
 rw[wx _ _ _ hi,m7 o,di,hv,gx];have h1:=yT (o.getD i 0) (2^s);have h2:2^s*(o.getD (i+1) 0%2^s*2^(32-s))=4294967296*(o.getD (i+1) 0%2^s):=by
  rw[yY,<-jl,show s+(32-s)=32 by omega,er]
 have h3:2^s*(4294967296^i*y)=4294967296^i*(2^s*(o.getD i 0/2^s))+4294967296^i*4294967296*(o.getD (i+1) 0%2^s):=by
  rw[yY,hy,di,h2,di,dZ]
 have h4:4294967296^i*o.getD i 0=4294967296^i*(2^s*(o.getD i 0/2^s))+4294967296^i*(o.getD i 0%2^s):=by rw[<-di,h1]
 omega
section
variable {a b s x c:Nat}
theorem aw4:cj .and .u64 (a:Nat) 4294967295=some (.int .u64 ((a%4294967296:Nat):Int)):=by
 have e:(oY IntKind.u64.bits (a:Int) &&& oY IntKind.u64.bits (4294967295:Int)).toNat=a%4294967296:=by
  have h1:(4294967295:Int)=((4294967295:Nat):Int):=rfl;rw[h1,vC,vC,BitVec.toNat_and,vu,vu];have h2:4294967295%2^IntKind.u64.bits=2^32-1:=rfl;rw[h2,Nat.and_two_pow_sub_one_eq_mod];show a%18446744073709551616%4294967296=a%4294967296;omega
 simp only[cj,e];rw[IntWalk.u64_in _ aa]
theorem ayf:cj .add .u32 (a:Nat) (b:Nat)=some (.int .u32 (((a+b)%4294967296:Nat):Int)):=by
 simp only[cj];rw[IntKind.wrap_u32];congr 2
theorem arH(hs:s<=32):lz .shl .u32 (a:Nat) ((s:Nat):Int)=some (.int .u32 ((a%2^(32-s)*2^s:Nat):Int)):=by
 have e:min ((s:Int)).toNat IntKind.u32.bits=s:=by show min s 32=s;omega
 have e2:(a:Int)*2^s=((a*2^s:Nat):Int):=az;simp only[lz];rw[if_neg aa,e,e2,wrap32];congr 3;have:4294967296=2^(32-s)*2^s:=by rw[<-jl,show 32-s+s=32 by omega]
 rw[this,anP]
theorem ayx(hc:c<2^s)(h:x*2^s+c<4294967296):cj .or .u32 (c:Nat) ((x*2^s:Nat):Int)=some (.int .u32 ((x*2^s+c:Nat):Int)):=by
 have e:(oY IntKind.u32.bits (c:Int) ||| oY IntKind.u32.bits ((x*2^s:Nat):Int)).toNat=x*2^s+c:=by
  rw[vC,vC,ags,vu,vu];have e1:x*2^s%2^IntKind.u32.bits=x*2^s:=fa (by show _<4294967296;omega);have e2:c%2^IntKind.u32.bits=c:=fa (by show _<4294967296;omega);rw[e1,e2,alx];have:=afO (i:=s) (b:=c) hc x;rw[af9]at this;exact this.symm
 simp only[cj,e];rw[IntWalk.u32_in _ aa]
theorem ahH{s y z:Nat}(hs:s<=32)(hy:y<4294967296):y/2^s<2^(32-s)/\z%2^s*2^(32-s)+y/2^s<4294967296:=by
 have hd:4294967296=2^(32-s)*2^s:=by rw[<-jl,show 32-s+s=32 by omega]
 have hp:0<2^s:=lM aa;have h1:y/2^s<2^(32-s):=by rw[jZ hp];omega
 refine⟨h1,?_⟩;have h2:=Nat.mod_lt z hp;have h3:(z%2^s+1)*2^(32-s)<=2^s*2^(32-s):=dT _ h2;rw[ep,vI,er (2^s)]at h3;omega
end
theorem aoe:∀{l:List Nat},val l=0->∀p,l.getD p 0=0
 | [],_,p=>by simp
 |x::xs,h,p=>by
   simp only[val]at h;have h1:x=0:=aa;have h2:val xs=0:=aa
   cases p with
   |zero=>simpa using h1
   |succ p=>simpa using aoe h2 p
theorem avn{l:List Nat}{n:Nat}(hn:n=l.length):∀p,fD n l<=p->l.getD p 0=0:=fun p hp=>by
 subst hn;have h1:=(ad3 l.length l (bA _)).2;rw[je]at h1;have h2:=oZ l (fD l.length l) (afR _ _);rw[h1]at h2;have h3:val (l.drop (fD l.length l))=0:=by
  rcases adf (val (l.drop (fD l.length l)))with e|e
  ·exact e
  have:=sv (pP (fD l.length l)) e;omega
 have h4:=aoe h3 (p-fD l.length l);rwa[abC,show fD l.length l+(p-fD l.length l)=p by omega]at h4
theorem aky{l:List Nat}{r s:Nat}(hs:s<=32)(h:val l=r*2^s):l.getD 0 0%2^s=0:=by
 cases l with
 |nil=>simp
 |cons x xs =>
  simp only[val]at h;have hd:4294967296=2^(32-s)*2^s:=by rw[<-jl,show 32-s+s=32 by omega]
  have h1:(x+4294967296*val xs)%2^s=0:=by rw[h,Nat.mul_mod_left]
  rw[hd,aqS,Nat.add_mul_mod_self_right]at h1;simpa using h1
theorem t0:(0:Int).toNat=0:=rfl
theorem auI{x:Nat}(h:x<4294967296):bh [x]:=fun y hy=>by simp at hy;omega
def xn:List Nat->Code->Option Code
 | [],c=>some c
 |i::p,.seq x y=>if i=0 then xn p x else xn p y
 |i::p,.cond _ x y=>if i=0 then xn p x else xn p y
 |_::p,.block _ c=>xn p c
 |_::p,.loop c=>xn p c
 |_,_=>none
def w8(fn:Func)(p:List Nat):Option Code:=fn.body.bind (xn p)
section
variable {P:Program} {Q:gI->St->Prop} {L L':St}
theorem aa4{fn:Func}{p:List Nat}{c:Code}(h:w8 fn p=some c)(k:bM P c Q L):bM P ((w8 fn p).getD .skip) Q L:=by rw[h];exact k
end
theorem aba{P:Program}{Q:gI->St->Prop}{L:St}{c:Code}{S:St->St}(h:S L=L)(k:bM P c Q (S L)):bM P c Q L:=by rw[<-h];exact k
theorem vW{Q:gI->St->Prop}{S L:St}(k:Q .normal S)(h:S=L):Q .normal L:=h▸k
end Go.Lg
namespace Go.Lg
theorem hce:(∀(p:Prop) [Decidable p],(decide p=true)=p)/\(∀(p:Prop) [Decidable p],(decide p=false)=¬p)/\(∀{α:Type} [BEq α] [LawfulBEq α] {a b:α},((a==b)=true)=(a=b))
  /\ (∀{α:Type} [BEq α] [LawfulBEq α] {a b:α},((a==b)=false)=¬(a=b))/\(∀{α:Type} [BEq α] [LawfulBEq α] {a b:α},((a != b)=true)=¬(a=b))/\(∀{α:Type} [BEq α] [LawfulBEq α] {a b:α},((a != b)=false)=(a=b))
  /\ (∀(b:Bool),(¬(b=true))=(b=false))/\(∀(b:Bool),((!b)=true)=(b=false))/\(∀(b:Bool),((!b)=false)=(b=true))/\(∀(a b:Bool),(a=!b)=¬(a=b))/\(!true)=false/\(!false)=true :=
 ⟨fun _=>by simp,fun _=>by simp,by intros;simp,by intros;simp,by intros;simp,by intros;simp,by simp,by simp,by simp,fun a b=>by cases a<;>cases b<;>simp,rfl,rfl⟩
theorem tm0{p:Prop}(h:p:=by first|exact yV rfl|exact yV (tx _)|exact yV (gw _)|exact yV (al.pure _)|exact yV (cB.pure _)|exact yV (bN al _ _)|exact lf (tx _) rfl|exact lf (gw _) rfl|exact lf (al.pure _) rfl|exact lf (gw _) (gw _)|exact agj (gw _) (gw _) rfl|exact lf rfl rfl|exact agj rfl rfl rfl|exact lf (bN al _ _) (bN al _ _)|exact lf (bN al _ _) rfl):p:=h
theorem imZ{H:bn}:bR H (.agg [.v (.bool false),.list 1 [],.list 1 []]) (ab 0):=iF▸.pure (al.pure 0)
theorem dv{p:Prop}(h:p:=by first|exact .pure rfl|exact .pure (bN eu _ _)|exact .pure (gw _)|exact .pure (al.pure _)|exact .pure (cB.pure _)|exact imZ|exact .pure (bN al _ _)|exact .pure (tx _)|exact .nil _|exact .pure (bN m8 _ _)|exact .pure (bN cB _ _)|exact .pure (a7.pure ⟨_,_,_⟩)|exact .pure (iA.pure _)|exact .pure (bN a7 _ _)|exact .pure (bN iA _ _)|exact .pure (by assumption)|exact .pure pu):p:=h
theorem im1{p:Prop}(h:p:=by first|exact .pure rfl|exact .pure (bN eu _ _)|exact .pure (gw _)|exact .pure (al.pure _)|exact .pure (cB.pure _)|exact .pure (bN al _ _)|exact .pure (tx _)|exact .nil _|exact .pure (bN m8 _ _)|exact .pure (bN cB _ _)|exact .pure (by assumption)|exact eM eu rfl rfl (by first|rfl|omega|exact(zF _ _).symm|(simp;done)|(simp;omega))|exact eM al rfl rfl (by first|rfl|omega|exact(zF _ _).symm|(simp;done)|(simp;omega))|exact aqx eu rfl rfl (by first|omega|(simp;omega))|exact aqx al rfl rfl (by first|omega|(simp;omega))):p:=h
theorem nt0{p:Prop}(h:p:=by first|(simp;done)|exact(fun m h=>LV.noConfusion h)|exact LV.dV (gw _)|exact LV.dV (al.pure _)|exact LV.dV (cB.pure _)|exact LV.dV (tx _)|exact LV.dV (bN al _ _)|exact LV.dV (by assumption)):p:=h
theorem ic{p:Prop}(h:p:=by first|exact⟨(fun h=>by cases h),(fun _ h=>by cases h)⟩|exact⟨LV.eg (al.pure _),LV.dV (al.pure _)⟩|exact⟨LV.eg (cB.pure _),LV.dV (cB.pure _)⟩|exact⟨LV.eg (a7.pure _),LV.dV (a7.pure _)⟩|exact⟨LV.eg (iA.pure _),LV.dV (iA.pure _)⟩|exact⟨LV.eg (by assumption),LV.dV (by assumption)⟩):p:=h
theorem ayG{a s:Nat}(hs:s<=32):lz .shl .u32 (a:Nat) (32-(s:Int))=some (.int .u32 ((a%2^s*2^(32-s):Nat):Int)):=by
 have:=arH (a:=a) (s:=32-s) aa;rw[show 32-(32-s)=s by omega]at this;rwa[show (32:Int)-(s:Int)=((32-s:Nat):Int) by omega]
end Go.Lg
namespace Go.Lg
def iI(s:Bool)(n:Nat):Int:=bif s then -(n:Int)else n
theorem ayF(s:Bool):iI s 0=0:=by cases s<;>rfl
theorem adG(s:Bool)(n:Nat):(iI s n).natAbs=n:=by cases s<;>simp[iI]
theorem arh(q:Rat):iI (decide (q<0)) q.num.natAbs=q.num:=by
 have h:(q<0)↔q.num<0:=by rw[<-aqi,<-aow];omega
 by_cases hq:q<0
 ·have:=h.1 hq;simp only[hq,decide_true,iI,cond_true];omega
 have h2:¬q.num<0:=fun x=>hq (h.2 x);simp only[hq,decide_false,iI,cond_false];omega
theorem acj(q:Rat):(q<0)↔q.num<0:=by rw[<-aqi,<-aow];omega
def qv(s:Bool)(n d:Nat):Rat:=mkRat (iI s n) d
theorem ah8(s:Bool){n d:Nat}(hn:0<n)(hd:0<d):(qv s n d).num.natAbs=n/n.gcd d:=by
 rw[qv,ao8,if_neg aa,adG,mE];have h:((n.gcd d:Nat):Int) ∣ iI s n:=by
  cases s
  ·exact agL.2 (vX _ _)
  exact(Int.dvd_neg.2 (agL.2 (vX _ _)))
 rw[Int.natAbs_ediv_of_dvd h,adG];simp
theorem alH(s:Bool)(n:Nat){d:Nat}(hd:0<d):(qv s n d).den=d/n.gcd d:=by
 rw[qv,Rat.den_mkRat,if_neg aa,adG,mE]
theorem avg(s:Bool){n d:Nat}(hn:0<n)(hd:0<d):decide (qv s n d<0)=s:=by
 have h1:(qv s n d).num=iI s n/(n.gcd d:Nat):=by rw[qv,ao8,if_neg aa,adG,mE]
 have hg:0<n.gcd d:=Nat.gcd_pos_of_pos_left _ hn;have h2:=ah8 s hn hd;have h3:n/n.gcd d≠0:=by
  have:=Nat.div_pos (Nat.le_of_dvd hn (vX n d)) hg;omega
 cases s
 ·have:0<=(qv false n d).num:=by rw[h1];exact amp (by simp[iI]) aa
  simp only[decide_eq_false_iff_not];rw[acj];omega
 have:(qv true n d).num<=0:=by
  rw[h1];simp only[iI,cond_true];have eJ:((n.gcd d:Nat):Int) ∣ (n:Int):=agL.2 (vX _ _);rw[Int.neg_ediv_of_dvd eJ];have:=amp (a:=(n:Int)) (b:=(n.gcd d:Nat)) aa aa;omega
 simp only[decide_eq_true_eq];rw[acj];omega
theorem abP(s:Bool)(d:Nat):qv s 0 d=0:=by rw[qv,ayF,Rat.zero_mkRat]
theorem agp(s:Bool)(n:Nat):qv s n 0=0:=by rw[qv];simp
theorem ko(q:Rat):qv (decide (q<0)) q.num.natAbs q.den=q:=by rw[qv,arh,anJ]
def sM(s:Bool)(q:Rat):Rat:=qv s q.num.natAbs q.den
theorem ayN(q:Rat):sM (decide (q<0)) q=q:=ko q
theorem atk(s:Bool)(n:Nat):iI (!s) n=- iI s n:=by cases s<;>simp[iI]
theorem axN(q:Rat):sM (!decide (q<0)) q=-q:=by
 rw[sM,qv,atk,<-aiU,arh,anJ]
theorem aiA(s t:Bool)(n d m e:Nat):qv s n d*qv t m e=qv (s != t) (n*m) (d*e):=by
 simp only[qv,Rat.mkRat_mul_mkRat];congr 1
 cases s<;>cases t<;>simp[iI,Int.mul_neg,ads]
theorem aq0(s:Bool){n d m e:Nat}(hd:0<d)(he:0<e):qv s n d+qv s m e=qv s (n*e+m*d) (d*e):=by
 simp only[qv];rw[af2 _ _ aa aa];congr 1
 cases s<;>simp[iI,ads]<;>omega
theorem al6(s t:Bool){n d m e:Nat}(hd:0<d)(he:0<e)(dL:s≠t)(h:m*d<=n*e):qv s n d+qv t m e=qv s (n*e-m*d) (d*e):=by
 simp only[qv];rw[af2 _ _ aa aa];congr 1
 cases s<;>cases t<;>simp_all[iI,ads]<;>omega
theorem ao4(s t:Bool){n d m e:Nat}(hd:0<d)(he:0<e)(dL:s≠t)(h:n*e<=m*d):qv s n d+qv t m e=qv t (m*d-n*e) (d*e):=by
 simp only[qv];rw[af2 _ _ aa aa];congr 1
 cases s<;>cases t<;>simp_all[iI,ads]<;>omega
theorem avt(x:Rat):(-x)⁻¹=-x⁻¹:=dR
theorem ayH(s:Bool)(n d:Nat):(qv s n d)⁻¹=qv s d n:=by
 have h0:(qv false n d)⁻¹=qv false d n:=by
  simp only[qv,Rat.mkRat_eq_div,iI,cond_false];rw[tu,Rat.inv_mul_rev,Rat.inv_inv,tu];rfl
 cases s
 ·exact h0
 have e:∀n d:Nat,qv true n d=- qv false n d:=fun n d=>by simp only[qv,iI,cond_true,cond_false,aiU]
 rw[e,e,avt,h0]
theorem afG(s t:Bool)(n d m e:Nat):qv s n d/qv t m e=qv (s != t) (n*e) (d*m):=by
 rw[tu,ayH,aiA]
theorem ahN(s:Bool){n d k:Nat}(hk:0<k):qv s (n*k) (d*k)=qv s n d:=by
 by_cases hd:d=0
 ·subst hd;simp[agp]
 simp only[qv];rw[Rat.mkRat_eq_iff (by have:=sv (qa hd) hk;omega) hd]
 cases s<;>simp[iI]<;>grind
theorem rO(q:Rat):gB q=if q.den=1 then 0 else q.den:=rfl
def rl(q:Rat):Nat:=max (ah q.num.natAbs).length (ah q.den).length
theorem oh(q:Rat):(ah q.num.natAbs).length<=rl q:=ana _ _
theorem qx(q:Rat):(ah q.den).length<=rl q:=agK _ _
theorem qJ(q:Rat):(ah (gB q)).length<=rl q:=by
 rw[rO];split
 ·simp[su]
 exact qx q
theorem aAU{q:Rat}{k:Nat}(hn:q.num.natAbs<4294967296^k)(hd:q.den<4294967296^k):rl q<=k :=
 Nat.max_le.2 ⟨sq hn,sq hd⟩
theorem zo(q:Rat):q.num.natAbs<4294967296^rl q/\q.den<4294967296^rl q:=⟨pS (oh q),pS (qx q)⟩
theorem al0(q:Rat):1<=rl q:=by
 have:=qx q;have h:ah q.den≠[]:=fun h=>q.den_nz (oX.1 h);have:=List.length_pos_iff.2 h;omega
theorem abu(s:Bool){n d k:Nat}(hn:n<4294967296^k)(hd:d<4294967296^k):rl (qv s n d)<=max k 1:=by
 by_cases gu:d=0
 ·subst gu;rw[agp];exact bW (aad (by rfl)) (agK _ _)
 by_cases fw:n=0
 ·subst fw;rw[abP];exact bW (aad (by rfl)) (agK _ _)
 refine bW (aAU (k:=k) ?_ ?_) (ana _ _)
 ·rw[ah8 s aa aa];exact sT (qd _ _) hn
 rw[alH s n aa];exact sT (qd _ _) hd
theorem aox(q:Rat):rl (-q)=rl q:=by simp[rl]
theorem va{x y a b:Nat}(hx:x<4294967296^a)(hy:y<4294967296^b):x*y<4294967296^(a+b):=by
 rw[jl];exact Nat.mul_lt_mul'' hx hy
theorem du(a b:Rat):rl (a*b)<=rl a+rl b:=by
 have ha:=zo a;have hb:=zo b;have:=abu (decide (a<0) != decide (b<0)) (va ha.1 hb.1) (va ha.2 hb.2);rw[<-aiA,ko,ko]at this;have:=al0 a;omega
theorem ab9(a b:Rat):rl (a/b)<=rl a+rl b:=by
 have ha:=zo a;have hb:=zo b;have:=abu (decide (a<0) != decide (b<0)) (va ha.1 hb.2) (va ha.2 hb.1);rw[<-afG,ko,ko]at this;have:=al0 a;omega
theorem ai2{x y k:Nat}(hx:x<4294967296^k)(hy:y<4294967296^k):x+y<4294967296^(k+1):=by
 rw[gx];omega
theorem ks(a b:Rat):rl (a+b)<=rl a+rl b+1:=by
 have ha:=zo a;have hb:=zo b;have hd:=va ha.2 hb.2;have eJ:a.den*b.den<4294967296^(rl a+rl b+1):=aiC hd (Nat.pow_lt_pow_right aa aa);have h1:=va ha.1 hb.2;have h2:=va ha.2 hb.1;have hs:=ai2 h1 h2;have key:∀n,n<=a.num.natAbs*b.den+a.den*b.num.natAbs->∀s,a+b=qv s n (a.den*b.den)->rl (a+b)<=rl a+rl b+1:=by
  intro n hn s e;rw[e];have:=abu s (sT hn hs) eJ;omega
 rw[er a.den b.num.natAbs]at key;by_cases dL:decide (a<0)=decide (b<0)
 ·refine key _ (bA _) (decide (a<0)) ?_;have:=aq0 (decide (a<0)) (n:=a.num.natAbs) (m:=b.num.natAbs) a.den_pos b.den_pos;rw[<-this,ko,dL,ko]
 rcases Nat.le_total (b.num.natAbs*a.den) (a.num.natAbs*b.den)with h|h
 ·refine key (a.num.natAbs*b.den-b.num.natAbs*a.den) aa (decide (a<0)) ?_;have:=al6 _ _ a.den_pos b.den_pos dL h;rw[<-this,ko,ko]
 refine key (b.num.natAbs*a.den-a.num.natAbs*b.den) aa (decide (b<0)) ?_;have:=ao4 _ _ a.den_pos b.den_pos dL h;rw[<-this,ko,ko]
theorem kW(a b:Rat):rl (a-b)<=rl a+rl b+1:=by
 have:=ks a (-b);rw[aox]at this;rwa[Rat.sub_eq_add_neg]
theorem acW(s:Bool){n d:Nat}(hn:0<n)(hd:0<d):ab (qv s n d)=.agg [.v (.bool s),aM (n/n.gcd d),aM (if d/n.gcd d=1 then 0 else d/n.gcd d)]:=by
 rw[qV,avg s hn hd,ah8 s hn hd,rO,alH s n hd]
def ez(a b:Rat):Int:=if a<b then -1 else if b<a then 1 else 0
section
variable {P:Program} {H:bn} {ρ:Operand->LV} {T:TypeId} {p x:Operand} {b i d sz:Nat} {q:Rat} {vals:List LV} {m ag:Bool} {α:Type} {e:α->LV} {a:α}
theorem aq.azU(hp:ρ p=.ax b 3 i 0)(hb:H b=some ⟨3,vals,m⟩)(hi:vals[i]?=some (ab q))(hT:aX P T 1 false):aq P H ρ (.load T p) (.v (.bool (decide (q<0)))):=.eP hp hb rfl hi (al.aj _) (asC q) hT
theorem aq.azi(hp:ρ p=.ax b 3 i 1)(hb:H b=some ⟨3,vals,m⟩)(hi:vals[i]?=some (ab q))(hT:aX P T 1 false):aq P H ρ (.load T p) (aM q.num.natAbs):=.eP hp hb rfl hi (al.aj _) (axr q) hT
theorem aq.ay3(hp:ρ p=.ax b 3 i 2)(hb:H b=some ⟨3,vals,m⟩)(hi:vals[i]?=some (ab q))(hT:aX P T 1 false):aq P H ρ (.load T p) (aM (gB q)):=.eP hp hb rfl hi (al.aj _) (axX q) hT
theorem aq.ayt(hp:ρ p=.ax b 3 i 0)(hb:H b=some ⟨3,vals,m⟩)(hi:vals[i]?=some (ab q))(hT:aX P T 3 true):aq P H ρ (.load T p) (ab q):=.eP hp hb rfl hi (al.aj _) (pC q) hT
theorem cH.aqn(he:fe e sz ag)(hx:ρ x=e a):cH P ρ d (.box T x) (.ax d sz 0 0) ⟨sz,[e a],true⟩:=by
 have h:=cH.box (P:=P) (ρ:=ρ) (d:=d) (T:=T) (x:=x) (by rw[hx];exact⟨fun h=>by have:=he.pure a;rw[h]at this;simp[LV.pure]at this,LV.dV (he.pure a)⟩);rwa[hx,he.aj]at h
theorem cH.aA8(he:fe e sz ag)(hz:ck P T (e a)):cH P ρ d (.alloc T) (.ax d sz 0 0) ⟨sz,[e a],true⟩:=by
 have h:=cH.alloc (ρ:=ρ) (d:=d) hz;rwa[he.aj]at h
end
section
variable {P:Program} {L:St} {dst:Option Nat} {T:TypeId} {p x:Operand} {b:Nat} {q:Rat} {zs:List LV}
theorem ey.aud(hp:L.ev p=.ax b 3 0 0)(hb:L.heap b=some ⟨3,[.agg zs],true⟩)(hz:bI zs=3)(hx:L.ev x=ab q)(hT:aX P T 3 true):
  ey P L dst (.store T p x) ((L.a5 b (some ⟨3,[ab q],true⟩)).put dst .any):=by
 have h:=ey.store (P:=P) (dst:=dst) (T:=T) (p:=p) (x:=x) (y:=.agg zs) (y':=ab q) hp hb rfl rfl rfl (by simp[LV.aj,hz])
  (by rw[hx];simp[LV.put,hz,al.aj,al.isAgg]) (by rw[hx,al.aj,al.isAgg];exact hT)
  (by rw[hx];exact⟨fun h=>by have:=al.pure q;rw[h]at this;simp[LV.pure]at this,LV.dV (al.pure q)⟩)
 exact h
end
section
variable {P:Program} {H:bn} {ρ:Operand->LV} {T:TypeId} {p x y:Operand} {b i d sz:Nat} {s:Rat×Rat} {vals:List LV} {m ag:Bool} {q r:Rat}
theorem aq.awW(hp:ρ p=.ax b 6 i 0)(hb:H b=some ⟨6,vals,m⟩)(hi:vals[i]?=some (cP s))(hT:aX P T 3 true):aq P H ρ (.load T p) (ab s.1):=.eP hp hb rfl hi (cB.aj _) (aj8 s) hT
theorem aq.auJ(hp:ρ p=.ax b 6 i 3)(hb:H b=some ⟨6,vals,m⟩)(hi:vals[i]?=some (cP s))(hT:aX P T 3 true):aq P H ρ (.load T p) (ab s.2):=.eP hp hb rfl hi (cB.aj _) (an4 s) hT
theorem aq.az1(hp:ρ p=.ax b 6 i 0)(hb:H b=some ⟨6,vals,m⟩)(hi:vals[i]?=some (cP s))(hT:aX P T 6 true):aq P H ρ (.load T p) (cP s):=.eP hp hb rfl hi (cB.aj _) (acN s) hT
theorem aq.aqj(hT:jn P T [(3,true),(3,true)])(hz:ck P T (.agg [ab 0,ab 0]))(hx:ρ x=ab q)(hy:ρ y=ab r):aq P H ρ (.build T #[(0,x),(1,y)]) (cP (q,r)):=by
 have:=aq.build (P:=P) (H:=H) (ρ:=ρ) (T:=T) (ps:=#[(0,x),(1,y)]) (zs:=[ab 0,ab 0]) (by simpa[lay,al.aj,al.isAgg]using hT) hz (by
  simp only[List.forall_mem_cons];exact⟨⟨_,rfl,by simp[lay,hx,al.aj,al.isAgg],by rw[hx];exact⟨LV.eg (al.pure _),LV.dV (al.pure _)⟩⟩,⟨_,rfl,by simp[lay,hy,al.aj,al.isAgg],by rw[hy];exact⟨LV.eg (al.pure _),LV.dV (al.pure _)⟩⟩,fun _ h=>by cases h⟩)
 rw[rL];simpa[jf,hx,hy]using this
theorem ey.aAf{L:St}{dst:Option Nat}{s0:Rat×Rat}(hp:L.ev p=.ax b 6 0 0)(hb:L.heap b=some ⟨6,[cP s0],true⟩)(hx:L.ev x=cP s)(hT:aX P T 6 true):
  ey P L dst (.store T p x) ((L.a5 b (some ⟨6,[cP s],true⟩)).put dst .any):=by
 have h0:LV.put (cP s0) 0 (L.ev x)=some (cP s):=by
  rw[hx,rL s0];simp[LV.put,cB.aj,cB.isAgg,bI,LV.aj,al.aj]
 have h:=ey.store (P:=P) (dst:=dst) (T:=T) (p:=p) (x:=x) (y:=cP s0) (y':=cP s) hp hb rfl rfl rfl (cB.aj _) h0 (by rw[hx,cB.aj,cB.isAgg];exact hT)
  (by rw[hx];exact⟨LV.eg (cB.pure s),LV.dV (cB.pure s)⟩)
 exact h
theorem aq.aBi{k:Nat}(hp:ρ p=.bg (cP s))(hT:jn P T [(3,true),(3,true)])(hk:k<2):aq P H ρ (.fieldAddr T p k) (.bg (ab (if k=0 then s.1 else s.2))):=by
 refine .sQ (fs:=[ab s.1,ab s.2]) (by rw[hp,rL]) (by simpa[lay,al.aj,al.isAgg]using hT) ?_
 match k,hk with
 |0,_=>rfl
 |1,_=>rfl
end
theorem agJ{L:St}{α:Type}{e:α->LV}{ag:Bool}{bs:List Nat}{b sz off len:Nat}{l l':List α}{m:Bool}(he:fe e sz ag)(hb:L.heap b=some ⟨sz,l.map e,m⟩)(o9:bs.contains b=true)(hl:off+len<=l.length)(h:(l.drop off).take len=l'):
  bR (L.bo bs).heap (.ref b sz off len) (.list sz (l'.map e)):=by
 have:=z6 (L:=L) (bs:=bs) (off:=off) (len:=len) hb o9 (bS he l) (by simpa using hl);rwa[<-List.map_drop,<-pU,h]at this
theorem aup{n:Int}(h1:-9223372036854775808<n)(h2:n<=9223372036854775807):(if IntKind.i64.wrap (0-n) > n then IntKind.i64.wrap (0-n)else n)=((n.natAbs:Nat):Int):=by
 rw[IntWalk.i64_in _ aa];split<;>omega
theorem aaM(n:Int):qv (decide (n<0)) n.natAbs 1=(n:Rat):=by
 have:iI (decide (n<0)) n.natAbs=n:=by
  by_cases h:n<0
  ·simp only[h,decide_true,iI,cond_true];omega
  simp only[h,decide_false,iI,cond_false];omega
 rw[qv,this,Rat.mkRat_one]
theorem agl(n d:Int):qv (decide (n<0) != decide (d<0)) n.natAbs d.natAbs=(n:Rat)/(d:Rat):=by
 rw[<-aaM n,<-aaM d,afG];simp
theorem awf{q:Rat}(h:q.den<4294967296):(ah (gB q)).length<=1:=pj.2 (by rw[rO];split<;>omega)
theorem aiz{q:Rat}(h:0<(ah (gB q)).length):gB q=q.den:=by
 rw[rO]at h ⊢;split
 ·rename_i h1;rw[if_pos h1]at h;simp[su]at h
 rfl
theorem aq4{q:Rat}(h:(ah (gB q)).length=0):q.den=1:=by
 have h0:=oX.1 (List.eq_nil_of_length_eq_zero h);rw[rO]at h0;have:=q.den_pos;split at h0
 ·assumption
 omega
def sG(q:Rat):Bool:=decide (q.num.natAbs<4294967296/\q.den<4294967296)
def pN(q:Rat):Nat:=if sG q then q.num.natAbs else 0
def pD(q:Rat):Nat:=if sG q then q.den else 0
def bY(a:Rat):Int:=if a=0 then 0 else if a<0 then -1 else 1
theorem aAA(q:Rat):bY q=if q.num.natAbs=0 then 0 else if q<0 then -1 else 1:=by
 unfold bY;by_cases h:q=0
 ·subst h;rfl
 have:¬q.num.natAbs=0:=fun h2=>h (Rat.num_eq_zero.1 aa);rw[if_neg h,if_neg this]
def l5(l:List Nat)(off n:Nat):List Nat:=if n<4294967296 then l.set off n else(l.set off (n%4294967296)).set (off+1) (n/4294967296)
def iW(n:Nat):Nat:=if n<4294967296 then 1 else 2
theorem ace{n:Nat}(h0:0<n)(h:n<18446744073709551616):(n<4294967296/\iW n=1/\ah n=[n])\/(4294967296<=n/\iW n=2/\ah n=[n%4294967296,n/4294967296]):=by
 by_cases hn:n<4294967296
 ·exact .inl ⟨hn,by simp[iW,hn],zD h0 hn⟩
 refine .inr ⟨aa,by simp[iW,hn],?_⟩;rw[wm h0,zD aa aa]
theorem awU{n:Nat}(h0:0<n)(h:n<18446744073709551616):((l5 [0,0,0,0] 0 n).drop 0).take (iW n)=ah n:=by
 rcases ace h0 h with⟨h1,h2,h3⟩|⟨h1,h2,h3⟩
 ·rw[h2,h3];simp[l5,h1]
 rw[h2,h3];simp[l5,ahr.2 h1]
theorem atv{n d:Nat}(h0:0<n)(h:n<18446744073709551616)(g0:0<d)(g:d<18446744073709551616):
  ((l5 (l5 [0,0,0,0] 0 n) (iW n) d).drop 0).take (iW n)=ah n/\((l5 (l5 [0,0,0,0] 0 n) (iW n) d).drop (iW n)).take (iW d)=ah d:=by
 rcases ace h0 h with⟨h1,h2,h3⟩|⟨h1,h2,h3⟩<;>rcases ace g0 g with⟨g1,g2,g3⟩|⟨g1,g2,g3⟩<;>rw[h2,h3,g2,g3]<;>simp[l5, *,ahr.2]
theorem afm(l:List Nat)(off n:Nat):(l5 l off n).length=l.length:=by unfold l5;split<;>simp
section
variable {P:Program} {ρ:Operand->LV} {α:Type} {e:α->LV}
theorem cH.avE{T E:TypeId}{x y w:Operand}{d sz:Nat}{ag:Bool}{z a b c:α}(he:fe e sz ag)(hT:P.underlying T=some (.slice E))(hz:ck P E (e z))(hE:aX P E sz ag)(hx:ρ x=e a)(hy:ρ y=e b)(hw:ρ w=e c)(cG:0<sz)(fV:sz<=1000):
  cH P ρ d (.buildSlice T 3 #[(0,x),(1,y),(2,w)]) (.ref d sz 0 3) ⟨sz,[a,b,c].map e,true⟩:=by
 have aG:∀v,ρ v=e a\/ρ v=e b\/ρ v=e c->lay (ρ v)=lay (e z)/\ρ v≠.any/\∀m,ρ v≠.aQ m:=by
  rintro v (h|h|h)<;>rw[h]<;>exact⟨by simp[lay,he.aj,he.isAgg],LV.eg (he.pure _),LV.dV (he.pure _)⟩
 have:=cH.lit (P:=P) (ρ:=ρ) (d:=d) (T:=T) (n:=3) (ps:=#[(0,x),(1,y),(2,w)]) hT hz (by rw[he.isAgg];exact hE) (he.aj z) aa aa cG (by
  intro p hp;simp only[fJ,jN,or_false]at hp;rcases hp with rfl|rfl|rfl
  ·exact⟨by show 0<3;omega,aG x (.inl hx)⟩
  ·exact⟨by show 1<3;omega,aG y (.inr (.inl hy))⟩
  exact⟨by show 2<3;omega,aG w (.inr (.inr hw))⟩)
 simpa[jf,hx,hy,hw,aJ]using this
end
theorem kD{P:Program}{L L0:St}{c:Code}{Q:gI->St->Prop}(hw:av L L0)(h:bM P (.loop c) Q L0):bM P (.loop c) Q L:=by
 intro I hI;obtain⟨L1,h1,h2⟩:=h I hI;exact⟨L1,hw.trans h1,h2⟩
section
variable {P:Program} {ops:Array Oper} {D:Array Bool} {L:St} {K:St->Prop} {fuel:Nat}
theorem adM(hr:Region.ready .any ops D=[])(k:K L):iq P ops fuel D L K:=by
 cases fuel with
 |zero=>exact⟨hr,k⟩
 |succ n=>exact⟨fun _=>k,fun i hi=>by rw[hr]at hi;cases hi⟩
theorem jk(i:Nat)(o:Oper)(hr:Region.ready .any ops D=[i])(ho:ops[i]?=some o)(h:opsL P false ops [o] L (fun L'=>iq P ops fuel (D.setIfInBounds i true) L' K)):iq P ops (fuel+1) D L K:=by
 refine⟨fun e=>(by rw[hr]at e;cases e),fun j hj=>?_⟩;rw[hr,List.mem_singleton]at hj;subst hj;obtain⟨L',h1,h2⟩:=h;exact⟨o,L',ho,h1,h2⟩
theorem mZ(i j:Nat)(o o2:Oper)(hr:Region.ready .any ops D=[i,j])(ho:ops[i]?=some o)(ho2:ops[j]?=some o2)(h:opsL P false ops [o] L (fun L'=>iq P ops fuel (D.setIfInBounds i true) L' K))
  (h2:opsL P false ops [o2] L (fun L'=>iq P ops fuel (D.setIfInBounds j true) L' K)):iq P ops (fuel+1) D L K:=by
 refine⟨fun e=>(by rw[hr]at e;cases e),fun x hx=>?_⟩;rw[hr]at hx;simp only[fJ,jN,or_false]at hx;rcases hx with rfl|rfl
 ·obtain⟨L',h1,h3⟩:=h;exact⟨o,L',ho,h1,h3⟩
 obtain⟨L',h1,h3⟩:=h2;exact⟨o2,L',ho2,h1,h3⟩
end
class UN (P:Program) (T:TypeId) (d:outParam TypeDesc):Prop where
 h:P.underlying T=some d
class TI (P:Program) (T:TypeId) (sz:outParam Nat) (ag:outParam Bool):Prop where
 h:aX P T sz ag
class SI (P:Program) (T:TypeId) (l:outParam (List (Nat×Bool))):Prop where
 h:jn P T l
class BI (P:Program) (T:TypeId) (n:outParam Nat):Prop where
 h:g6 P T n
class ZI (P:Program) (T:TypeId) (z:outParam LV):Prop where
 h:ck P T z
class EC (P:Program) (T:TypeId) {α:outParam Type} (e:outParam (α->LV)) (sz:outParam Nat) (ag:outParam Bool) (z:outParam α):Prop where
 h:fe e sz ag
 z:ck P T (e z)
 t:aX P T sz ag
class AE (P:Program) (T:TypeId) {α:outParam Type} (e:outParam (α->LV)) (sz:outParam Nat) (ag:outParam Bool) (z:outParam α):Prop where
 h:fe e sz ag
 z:ck P T (e z)
theorem zHs{p:Prop}(h:p:=by first|(simp only[hce,l1,t0,t1,dU,bq];exact rfl)|exact rfl):p:=h
theorem aco{S:St->St}{L L1:St}(h:S L1=L):∃L1,av L (S L1):=⟨L1,av.of_eq h⟩
def axL:BinOp->Bool
 | .eql | .neq | .lss | .leq | .gtr | .geq=>true
 |_=>false
section
variable {P:Program} {H:bn} {ρ:Operand->LV} {α:Type} {e:α->LV} {sz:Nat} {ag:Bool} {z a:α} {T E:TypeId} {p x i:Operand} {L L0:St} {Q:gI->St->Prop} {K:St->Prop}
theorem aq.ldB[c:EC P T e sz ag z](hp:ρ p=.bg (e a)):aq P H ρ (.load T p) (e a):=.auY c.h hp c.t
theorem aq.ldE[Inhabited α][c:EC P T e sz ag z]{b i:Nat}{l:List α}{m:Bool}(hp:ρ p=.ax b sz i 0)(hb:H b=some ⟨sz,l.map e,m⟩)(hi:i<l.length):aq P H ρ (.load T p) (e (l.getD i default)):=.awR c.h hp hb c.t hi
theorem aq.y4[Inhabited α][u:UN P T (.slice E)][c:EC P E e sz ag z]{l:List α}{k:IntKind}{n:Int}(hx:ρ x=.list sz (l.map e))(hi:ρ i=.v (.int k n))(h0:0<=n)(hn:n<l.length):
  aq P H ρ (.indexAddr T x i) (.bg (e (l.getD n.toNat default))):=.axi c.h hx u.h c.t hi h0 hn
theorem aq.ixR[u:UN P T (.slice E)][c:TI P E sz ag]{b off len:Nat}{k:IntKind}{n:Int}(hx:ρ x=.ref b sz off len)(hi:ρ i=.v (.int k n))(h0:0<=n)(hn:n<len):
  aq P H ρ (.indexAddr T x i) (.ax b sz (off+n.toNat) 0):=.vv hx u.h c.h hi h0 hn
theorem aq.cmp{op:BinOp}{U:TypeId}{y:Operand}{k:IntKind}{a b:Int}{r:Value}(hc:axL op=true)(hx:ρ x=.v (.int k a))(hy:ρ y=.v (.int k b))(h:cj op k a b=some r):aq P H ρ (.binOp op T x y U) (.v r):=.bin hx hy h
theorem ey.stE[Inhabited α][c:EC P T e sz ag z]{dst:Option Tmp}{b i:Nat}{l:List α}(hp:L.ev p=.ax b sz i 0)(hb:L.heap b=some ⟨sz,l.map e,true⟩)(hx:L.ev x=e a)(hi:i<l.length):
  ey P L dst (.store T p x) ((L.a5 b (some ⟨sz,(l.set i a).map e,true⟩)).put dst .any):=.asi c.h hp hb hx c.t hi
theorem cH.gC{cn:Nat}[u:UN P T (.slice E)][c:EC P E e sz ag z][b:BI P E cn]{d n m:Nat}{kl kc:IntKind}(hl:ρ x=.v (.int kl (n:Nat)))(hc:ρ i=.v (.int kc (m:Nat)))(iz:n<=m)(hm:cn*m<=281474976710656)(fh:m<=9223372036854775807):
  cH P ρ d (.makeSlice T x i) (.ref d sz 0 n) ⟨sz,(aJ n z).map e,true⟩:=.arb c.h u.h c.z c.t b.h hl hc iz hm fh
theorem cH.bxE[c:EC P T e sz ag z]{d:Nat}(hx:ρ x=e a):cH P ρ d (.box T x) (.ax d sz 0 0) ⟨sz,[e a],true⟩:=.aqn c.h hx
theorem au{c:Operand}{x y:Code}{t:Bool}{u v:Prop}(hc:L.ev c=.v (.bool t))(h1:t=true->u->bM P x Q L)(h2:t=false->v->bM P y Q L)
  (e1:(t=true)=u:=by exact zHs) (e2:(t=false)=v:=by exact zHs):bM P (.cond c x y) Q L:=afZ hc (fun h=>h1 h (e1▸h)) (fun h=>h2 h (e2▸h))
theorem cH.alE[c:AE P T e sz ag z]{d:Nat}:cH P ρ d (.alloc T) (.ax d sz 0 0) ⟨sz,[e z],true⟩:=.aA8 c.h c.z
theorem cH.l0[u:UN P T (.slice E)][t:TI P E sz ag]{d:Nat}:cH P ρ d (.buildSlice T 0 #[]) (.ref d sz 0 0) ⟨sz,[],true⟩:=.adT u.h t.h
theorem cH.l1[u:UN P T (.slice E)][c:EC P E e sz ag z]{d:Nat}{x0:Operand}{a0:α}(h0:ρ x0=e a0)(cG:0<sz:=by decide)(fV:sz<=1000:=by decide):cH P ρ d (.buildSlice T 1 #[(0,x0)]) (.ref d sz 0 1) ⟨sz,[a0].map e,true⟩:=.aAh c.h u.h c.z c.t h0 cG fV
theorem cH.l2[u:UN P T (.slice E)][c:EC P E e sz ag z]{d:Nat}{x0 x1:Operand}{a0 a1:α}(h0:ρ x0=e a0)(h1:ρ x1=e a1)(cG:0<sz:=by decide)(fV:sz<=1000:=by decide):cH P ρ d (.buildSlice T 2 #[(0,x0),(1,x1)]) (.ref d sz 0 2) ⟨sz,[a0,a1].map e,true⟩:=.ayS c.h u.h c.z c.t h0 h1 cG fV
theorem cH.l3[u:UN P T (.slice E)][c:EC P E e sz ag z]{d:Nat}{x0 x1 x2:Operand}{a0 a1 a2:α}(h0:ρ x0=e a0)(h1:ρ x1=e a1)(h2:ρ x2=e a2)(cG:0<sz:=by decide)(fV:sz<=1000:=by decide):cH P ρ d (.buildSlice T 3 #[(0,x0),(1,x1),(2,x2)]) (.ref d sz 0 3) ⟨sz,[a0,a1,a2].map e,true⟩:=.avE c.h u.h c.z c.t h0 h1 h2 cG fV
theorem cz{dr:Bool}{ops:Array Oper}{l:List Oper}(d:Nat){b:Bool}{u v:Prop}(h:L.slot d=.v (.bool b))(ht:b=true->u->opsL P dr ops l L K)(hf:b=false->v->opsL P dr ops l L K)
  (e1:(b=true)=u:=by exact zHs) (e2:(b=false)=v:=by exact zHs):opsL P dr ops l L K:=az7 h (fun h=>ht h (e1▸h)) (fun h=>hf h (e2▸h))
theorem aq.bd{zs:List LV}{l:List (Nat×Bool)}{ps:Array (Nat×Operand)}[z:ZI P T (.agg zs)][s:SI P T l](h:zs.map lay=l)(hp:∀p∈ps.toList,∃z,zs[p.1]?=some z/\lay (ρ p.2)=lay z/\ρ p.2≠.any/\∀m,ρ p.2≠.aQ m):
  aq P H ρ (.build T ps) (.agg (jf zs (ps.toList.map fun p=>(p.1,ρ p.2)))):=.build (h▸s.h) z.h hp
end
def mS(L:St)(h:List (Nat×aL)):List (Nat×LV)->St
 | []=>St.mk L.slot (hp h)
 |(t,x)::r=>(mS L h r).put (some t) x
theorem ms1(L:St)(h:List (Nat×aL)):mS L h []=St.mk L.slot (hp h):=rfl
theorem ms2(L:St)(h:List (Nat×aL))(t:Nat)(x:LV)(r:List (Nat×LV)):mS L h ((t,x)::r)=(mS L h r).put (some t) x:=rfl
theorem bc:type_of% (bG @ms1 (bG @ms2 (bG @e1 ( bG @e2 ( bG @e3 ( bG @e4 ( bG @p1 ( bG @p2 ( bG @p3 ( bG @q1 ( bG @q2 ( bG @q3 ( bG @l1 ( bG @t0 ( bG @t1 ( bG @r1 ( bG @r2 ( bG @r3 ( bG @r4 ( bG @b1 ( bG @b2 ( bG @b3 ( bG @b4 ( bG @b5 ( bG @b6 ( bG @i1 ( bG @i2 ( bG @i3 ( bG @i4 ( bG @i5 ( bG @i6 (fW)))))))))))))))))))))))))))))))):=bG @ms1 (bG @ms2 (bG @e1 ( bG @e2 ( bG @e3 ( bG @e4 ( bG @p1 ( bG @p2 ( bG @p3 ( bG @q1 ( bG @q2 ( bG @q3 ( bG @l1 ( bG @t0 ( bG @t1 ( bG @r1 ( bG @r2 ( bG @r3 ( bG @r4 ( bG @b1 ( bG @b2 ( bG @b3 ( bG @b4 ( bG @b5 ( bG @b6 ( bG @i1 ( bG @i2 ( bG @i3 ( bG @i4 ( bG @i5 ( bG @i6 (fW)))))))))))))))))))))))))))))))
namespace H0
theorem aD{p q:Prop}(k:q)(e:p=q:=by simp only[bc,aZ,aW,aS];exact rfl):p:=e.mpr k
end H0
theorem om{p:Prop}(h:p:=by first|(refine aD ?_;omega)|omega):p:=h
theorem nf{p:Prop}(h:p:=by first|(refine aD ?_;exact rfl)|exact rfl):p:=h
theorem cl{p:Prop}(h:p:=by first|rfl|(refine aD ?_;first|exact trivial|rfl|(congr 3<;>omega)|(congr 2<;>omega))):p:=h
theorem ml{p:Prop}(h:p:=by first|rfl|(refine aD ?_;first|exact trivial|rfl|(congr 2<;>omega))):p:=h
theorem nt1:(!true)=false:=rfl
theorem qe{p:Prop}(h:p:=by first|assumption|with_reducible rfl|with_reducible exact nt1|with_reducible exact nt2):p:=h
theorem gd{p:Prop}(h:p:=by first|exact rfl|exact gr (v:=true) rfl rfl qe rfl|exact gr (v:=false) rfl rfl qe rfl):p:=h
theorem nes{p:Prop}(h:p:=by first|(intro p hp;cases hp;done)|(simp only[List.forall_mem_cons];first|exact⟨⟨_,rfl,rfl,ic⟩,fun _ h=>by cases h⟩|exact⟨⟨_,rfl,rfl,ic⟩,⟨_,rfl,rfl,ic⟩,fun _ h=>by cases h⟩|exact⟨⟨_,rfl,rfl,ic⟩,⟨_,rfl,rfl,ic⟩,⟨_,rfl,rfl,ic⟩,fun _ h=>by cases h⟩|exact⟨⟨_,rfl,rfl,ic⟩,⟨_,rfl,rfl,ic⟩,⟨_,rfl,rfl,ic⟩,⟨_,rfl,rfl,ic⟩,fun _ h=>by cases h⟩)):p:=h
theorem bK{p:Prop}(h:p:=by exact .cons dv .nil):p:=h
theorem aK{p:Prop}(h:p:=by exact .cons dv (.cons dv .nil)):p:=h
theorem iM{p:Prop}(h:p:=by exact .cons dv (.cons dv (.cons dv .nil))):p:=h
theorem am4{p:Prop}(h:p:=by exact .cons dv (.cons dv (.cons dv (.cons dv .nil)))):p:=h
theorem am0{p:Prop}(h:p:=by exact .nil):p:=h
theorem oc{p:Prop}(h:p:=by exact .cons im1 .nil):p:=h
section
variable {P:Program} {dr:Bool} {ops:Array Oper} {rest:List Oper} {L:St} {K:St->Prop} {dst:Option Tmp} {ty:TypeId} {pos:String} {af:Array Edge} {g:Option (Nat×Bool)}
theorem cp{f:FuncId}{xs:Array Operand}{bH:Array TypeId}{args:List LV}{r:LV}(ha:dP L.heap (xs.toList.map L.ev) args)(hk:ar P f args r)(k:opsL P dr ops rest (L.put dst r) K)
  (hg:cI ops L ⟨dst,.call ⟨.value (.func f),xs,bH⟩,ty,pos,af,g⟩ true:=by exact gd):opsL P dr ops (⟨dst,.call ⟨.value (.func f),xs,bH⟩,ty,pos,af,g⟩::rest) L K:=cF hg ha hk k
theorem n9{f:FuncId}{xs:Array Operand}{bH:Array TypeId}{args:List LV}{r:LV}(bs:List Nat)(ha:dP (L.bo bs).heap (xs.toList.map L.ev) args)(hk:ar P f args r)(k:opsL P dr ops rest ((L.bo bs).put dst r) K)
  (hg:cI ops L ⟨dst,.call ⟨.value (.func f),xs,bH⟩,ty,pos,af,g⟩ true:=by exact gd) (h0:bs.contains 0=false:=by exact rfl):opsL P dr ops (⟨dst,.call ⟨.value (.func f),xs,bH⟩,ty,pos,af,g⟩::rest) L K:=zG bs hg h0 ha hk k
end
def Nx1{α:Type}(S:α->St->St)(C:α->Prop)(μ:α->Nat)(a:α)(L:St):Prop:=∃a' L2,C a'/\μ a'<μ a/\av L (S a' L2)
theorem da{α:Type}{P:Program}{Q:gI->St->Prop}{L:St}{k:Code}(S:α->St->St)(C:α->Prop)(μ:α->Nat)(a:α)(hC:C a)(hr:∀a' L1,C a'->bM P k (lq (Nx1 S C μ a') Q) (S a' L1))
  (h0:∃L1,av L (S a L1):=by apply aco;repeat (first|exact nr cl|refine b8 ?_ cl)):bM P (.loop k) Q L:=by
 refine acr (α:=α) (fun x=>S x) (fun x=>C x) (fun x=>μ x) a hC h0 ?_;rintro a' L1 hc;refine xN (fun e L h=>?_) (hr a' L1 hc)
 cases e with
 |normal =>
  obtain⟨a1,L2,h1,h2,h3⟩:=h;exact⟨a1,L2,h1,h2,h3⟩
 |exit i=>exact h
 |ret=>exact h
theorem fj{α:Type}{S:α->St->St}{C:α->Prop}{μ:α->Nat}{a:α}{L L2:St}(a':α)(hc:C a')(hm:μ a'<μ a:=by omega)(he:av L (S a' L2):=by apply av.of_eq;repeat (first|exact nr cl|refine b8 ?_ cl)):Nx1 S C μ a L:=⟨a',L2,hc,hm,he⟩
def Nx2{α β:Type}(S:α->β->St->St)(C:α->β->Prop)(μ:α->β->Nat)(a:α)(b:β)(L:St):Prop:=∃a' b' L2,C a' b'/\μ a' b'<μ a b/\av L (S a' b' L2)
theorem iy{α β:Type}{P:Program}{Q:gI->St->Prop}{L:St}{k:Code}(S:α->β->St->St)(C:α->β->Prop)(μ:α->β->Nat)(a:α)(b:β)(hC:C a b)(hr:∀a' b' L1,C a' b'->bM P k (lq (Nx2 S C μ a' b') Q) (S a' b' L1))
  (h0:∃L1,av L (S a b L1):=by apply aco;repeat (first|exact nr cl|refine b8 ?_ cl)):bM P (.loop k) Q L:=by
 refine acr (α:=α×β) (fun x=>S x.1 x.2) (fun x=>C x.1 x.2) (fun x=>μ x.1 x.2) (a,b) hC h0 ?_;rintro⟨a',b'⟩ L1 hc;refine xN (fun e L h=>?_) (hr a' b' L1 hc)
 cases e with
 |normal =>
  obtain⟨a1,b1,L2,h1,h2,h3⟩:=h;exact⟨(a1,b1),L2,h1,h2,h3⟩
 |exit i=>exact h
 |ret=>exact h
theorem fC{α β:Type}{S:α->β->St->St}{C:α->β->Prop}{μ:α->β->Nat}{a:α}{b:β}{L L2:St}(a':α)(b':β)(hc:C a' b')(hm:μ a' b'<μ a b:=by omega)(he:av L (S a' b' L2):=by apply av.of_eq;repeat (first|exact nr cl|refine b8 ?_ cl)):Nx2 S C μ a b L:=⟨a',b',L2,hc,hm,he⟩
def Nx3{α β γ:Type}(S:α->β->γ->St->St)(C:α->β->γ->Prop)(μ:α->β->γ->Nat)(a:α)(b:β)(c:γ)(L:St):Prop:=∃a' b' c' L2,C a' b' c'/\μ a' b' c'<μ a b c/\av L (S a' b' c' L2)
theorem ow{α β γ:Type}{P:Program}{Q:gI->St->Prop}{L:St}{k:Code}(S:α->β->γ->St->St)(C:α->β->γ->Prop)(μ:α->β->γ->Nat)(a:α)(b:β)(c:γ)(hC:C a b c)(hr:∀a' b' c' L1,C a' b' c'->bM P k (lq (Nx3 S C μ a' b' c') Q) (S a' b' c' L1))
  (h0:∃L1,av L (S a b c L1):=by apply aco;repeat (first|exact nr cl|refine b8 ?_ cl)):bM P (.loop k) Q L:=by
 refine acr (α:=α×β×γ) (fun x=>S x.1 x.2.1 x.2.2) (fun x=>C x.1 x.2.1 x.2.2) (fun x=>μ x.1 x.2.1 x.2.2) (a,b,c) hC h0 ?_;rintro⟨a',b',c'⟩ L1 hc;refine xN (fun e L h=>?_) (hr a' b' c' L1 hc)
 cases e with
 |normal =>
  obtain⟨a1,b1,c1,L2,h1,h2,h3⟩:=h;exact⟨(a1,b1,c1),L2,h1,h2,h3⟩
 |exit i=>exact h
 |ret=>exact h
theorem nN{α β γ:Type}{S:α->β->γ->St->St}{C:α->β->γ->Prop}{μ:α->β->γ->Nat}{a:α}{b:β}{c:γ}{L L2:St}(a':α)(b':β)(c':γ)(hc:C a' b' c')(hm:μ a' b' c'<μ a b c:=by omega)(he:av L (S a' b' c' L2):=by apply av.of_eq;repeat (first|exact nr cl|refine b8 ?_ cl)):Nx3 S C μ a b c L:=⟨a',b',c',L2,hc,hm,he⟩
def Nx4{α β γ δ:Type}(S:α->β->γ->δ->St->St)(C:α->β->γ->δ->Prop)(μ:α->β->γ->δ->Nat)(a:α)(b:β)(c:γ)(d:δ)(L:St):Prop:=∃a' b' c' d' L2,C a' b' c' d'/\μ a' b' c' d'<μ a b c d/\av L (S a' b' c' d' L2)
theorem lp4{α β γ δ:Type}{P:Program}{Q:gI->St->Prop}{L:St}{k:Code}(S:α->β->γ->δ->St->St)(C:α->β->γ->δ->Prop)(μ:α->β->γ->δ->Nat)(a:α)(b:β)(c:γ)(d:δ)(hC:C a b c d)(hr:∀a' b' c' d' L1,C a' b' c' d'->bM P k (lq (Nx4 S C μ a' b' c' d') Q) (S a' b' c' d' L1))
  (h0:∃L1,av L (S a b c d L1):=by apply aco;repeat (first|exact nr cl|refine b8 ?_ cl)):bM P (.loop k) Q L:=by
 refine acr (α:=α×β×γ×δ) (fun x=>S x.1 x.2.1 x.2.2.1 x.2.2.2) (fun x=>C x.1 x.2.1 x.2.2.1 x.2.2.2) (fun x=>μ x.1 x.2.1 x.2.2.1 x.2.2.2) (a,b,c,d) hC h0 ?_;rintro⟨a',b',c',d'⟩ L1 hc;refine xN (fun e L h=>?_) (hr a' b' c' d' L1 hc)
 cases e with
 |normal =>
  obtain⟨a1,b1,c1,d1,L2,h1,h2,h3⟩:=h;exact⟨(a1,b1,c1,d1),L2,h1,h2,h3⟩
 |exit i=>exact h
 |ret=>exact h
theorem nx4{α β γ δ:Type}{S:α->β->γ->δ->St->St}{C:α->β->γ->δ->Prop}{μ:α->β->γ->δ->Nat}{a:α}{b:β}{c:γ}{d:δ}{L L2:St}(a':α)(b':β)(c':γ)(d':δ)(hc:C a' b' c' d')(hm:μ a' b' c' d'<μ a b c d:=by omega)(he:av L (S a' b' c' d' L2):=by apply av.of_eq;repeat (first|exact nr cl|refine b8 ?_ cl)):Nx4 S C μ a b c d L:=⟨a',b',c',d',L2,hc,hm,he⟩
structure V3 where
 x:Rat
 y:Rat
 z:Rat
instance:Inhabited V3:=⟨⟨0,0,0⟩⟩
def aB(p:V3):LV:=.agg [ab p.x,ab p.y,ab p.z]
theorem a7:fe aB 9 true:=by
 refine⟨fun s=>?_,fun s=>rfl,fun s=>?_⟩<;>simp[aB,LV.aj,bI,LV.pure,aN,al.aj,al.pure]
structure dG where
 p:V3
 w:Rat
instance:Inhabited dG:=⟨⟨⟨0,0,0⟩,0⟩⟩
def dj(q:dG):LV:=.agg [aB q.p,ab q.w]
theorem iA:fe dj 12 true:=by
 refine⟨fun s=>?_,fun s=>rfl,fun s=>?_⟩<;>simp[dj,LV.aj,bI,LV.pure,aN,al.aj,al.pure,a7.aj,a7.pure]
theorem tb(l:List LV):(LV.agg l).isAgg=true:=rfl
theorem ain(c:Value):(LV.v c).isAgg=false:=rfl
theorem laE{p:Prop}(h:p:=by(simp only[List.forall_mem_cons];simp[lay,LV.aj,bI,tb,ain,al.aj,cB.aj,al.isAgg,cB.isAgg])):p:=h
theorem cs{p:Prop}(h:p:=by first|exact rfl|(simp[LV.aj,bI,lay,tb,ain,al.aj,cB.aj,a7.aj,iA.aj,al.isAgg,cB.isAgg,a7.isAgg,iA.isAgg];done)):p:=h
theorem pu{p:Prop}(h:p:=by first|exact rfl|(simp[LV.pure,aN,al.pure,cB.pure,a7.pure,iA.pure, *];done)):p:=h
theorem fq{y:LV}{n:Nat}(hy:y.aj=n)(ha:y.isAgg=true):y.at 0 n true=some y:=by
 cases y with
 |agg l=>simp only[LV.aj]at hy;simp[LV.at,hy]
 |_=>cases ha
theorem agh(a b:Rat):(ab a).put 0 (ab b)=some (ab b):=aid _ _ (by rw[al.aj,al.aj]) (by rw[al.isAgg,al.isAgg])
theorem ati(a b:Rat×Rat):(cP a).put 0 (cP b)=some (cP b):=aid _ _ (by rw[cB.aj,cB.aj]) (by rw[cB.isAgg,cB.isAgg])
theorem atL(s:Rat×Rat)(r:Rat):(cP s).put 0 (ab r)=some (cP (r,s.2)):=by
 rw[rL,rL];simp[LV.put,uK,bI,al.aj,al.isAgg,agh]
theorem azG(s:Rat×Rat)(r:Rat):(cP s).put 3 (ab r)=some (cP (s.1,r)):=by
 rw[rL,rL];simp[LV.put,uK,bI,al.aj,al.isAgg,agh]
theorem atp{p:Prop}(h:p:=by first|exact fq (y:=aB _) (a7.aj _) rfl|exact fq (y:=dj _) (iA.aj _) rfl|exact rfl|(simp only[jY,List.take_succ_cons,List.take_zero,List.take_nil,LV.at,lE,aB,dj,fq,pC,acN,aj8,an4,LV.aj,bI,al.aj,cB.aj,al.isAgg,cB.isAgg,Nat.reduceAdd,Nat.reduceLT,Nat.reduceSub,Nat.reduceMul,Nat.add_zero,Nat.zero_add,Int.toNat_natCast,Int.reduceToNat,Int.reduceAdd,Nat.reduceEqDiff,reduceIte,and_true,true_and,and_false,false_and,if_true,if_false,Bool.false_eq_true,Bool.true_eq_false,eq_self,Nat.sub_zero,Nat.lt_irrefl,Nat.sub_self,Nat.zero_mul,Nat.zero_lt_succ]<;>exact rfl)):p:=h
theorem ptp{p:Prop}(h:p:=by first|exact rfl|(simp only[jY,List.take_succ_cons,List.take_zero,List.take_nil,LV.put,uK,aB,dj,LV.aj,bI,tb,ain,al.aj,cB.aj,al.isAgg,cB.isAgg,agh,ati,atL,azG,Option.map_some,Nat.reduceAdd,Nat.reduceLT,Nat.reduceSub,Nat.reduceMul,Nat.add_zero,Nat.zero_add,Int.toNat_natCast,Int.reduceToNat,Int.reduceAdd,Nat.reduceEqDiff,reduceIte,and_true,true_and,and_false,false_and,if_true,if_false,Bool.false_eq_true,Bool.true_eq_false,eq_self,Nat.sub_zero,Nat.lt_irrefl,Nat.sub_self,Nat.zero_mul,Nat.zero_lt_succ]<;>exact rfl)):p:=h
section
variable {P:Program} {H:bn} {ρ:Operand->LV} {T E:TypeId} {p x i:Operand} {n sz:Nat} {ag:Bool} {fs:List LV} {r:LV} {k:IntKind} {m:Int} {b o j:Nat}
theorem aq.ixa[u:UN P T (.array n E)][t:TI P E sz ag](hx:ρ x=.agg fs)(hi:ρ i=.v (.int k m))(h0:0<=m)(hr:fs[m.toNat]?=some r)(hp:r.pure=true)(hf:fs.map lay=aJ n (sz,ag)):aq P H ρ (.index T x i) r:=.ac8 hx u.h t.h hf hi h0 hr hp
theorem aq.ixe[u:UN P T (.array n E)][t:TI P E sz ag]{s2:Nat}(hx:ρ x=.ax b s2 j o)(hi:ρ i=.v (.int k m))(h0:0<=m)(hm:m<n):aq P H ρ (.indexAddr T x i) (.ax b s2 j (o+m.toNat*sz)):=.wP hx u.h t.h hi h0 hm
theorem aq.ixb[u:UN P T (.array n E)][t:TI P E sz ag](hx:ρ x=.bg (.agg fs))(hi:ρ i=.v (.int k m))(h0:0<=m)(hr:fs[m.toNat]?=some r)(hf:fs.map lay=aJ n (sz,ag)):aq P H ρ (.indexAddr T x i) (.bg r):=.tf hx u.h t.h hf hi h0 hr
theorem aq.iK{zs:List LV}{ps:Array (Nat×Operand)}[u:UN P T (.array n E)][t:TI P E sz ag][z:ZI P T (.agg zs)](h:∀z∈zs,lay z=(sz,ag))(hp:∀p∈ps.toList,∃z,zs[p.1]?=some z/\lay (ρ p.2)=lay z/\ρ p.2≠.any/\∀m,ρ p.2≠.aQ m):
  aq P H ρ (.build T ps) (.agg (jf zs (ps.toList.map fun p=>(p.1,ρ p.2)))):=.xm u.h t.h h z.h hp
theorem aq.aza{o0 o1:Operand}{a b:Rat}[u:UN P T (.array 2 E)][t:TI P E 3 true][z:ZI P T (.agg [ab 0,ab 0])](h0:ρ o0=ab a)(h1:ρ o1=ab b):aq P H ρ (.build T #[(0,o0),(1,o1)]) (.agg [ab a,ab b]):=by
 have:=aq.iK (H:=H) (ρ:=ρ) (ps:=#[(0,o0),(1,o1)]) (u:=u) (t:=t) (z:=z) (by simp[lay,al.aj,al.isAgg]) (by
  intro p hp;simp only[fJ,jN,or_false]at hp;rcases hp with rfl|rfl
  ·exact⟨_,rfl,by rw[h0];simp[lay,al.aj,al.isAgg],by rw[h0];exact LV.eg (al.pure _),by rw[h0];exact LV.dV (al.pure _)⟩
  exact⟨_,rfl,by rw[h1];simp[lay,al.aj,al.isAgg],by rw[h1];exact LV.eg (al.pure _),by rw[h1];exact LV.dV (al.pure _)⟩)
 simpa only[jf,List.map,List.foldl,List.set,h0,h1]using this
theorem aq.ldp{vals:List LV}{y:LV}{mt:Bool}[t:TI P T n ag](hp:ρ p=.ax b sz j o)(hb:H b=some ⟨sz,vals,mt⟩)(hi:vals[j]?=some y)(hy:y.aj=sz)(hr:y.at o n ag=some r):aq P H ρ (.load T p) r:=.eP hp hb rfl hi hy hr t.h
theorem aq.jQ{c:LV}[t:TI P T n ag](hp:ρ p=.bg c)(hc:c.pure=true)(hs:c.aj=n)(ha:c.isAgg=ag):aq P H ρ (.load T p) c:=.xB hp (by rw[hs,ha];exact t.h) hc
theorem ey.p6{L:St}{vals:List LV}{y y' v:LV}{dst:Option Tmp}[t:TI P T n ag](hp:L.ev p=.ax b sz j o)(hb:L.heap b=some ⟨sz,vals,true⟩)(hi:vals[j]?=some y)(hx:L.ev x=v)(hy:y.aj=sz)(hv:v.aj=n)(hva:v.isAgg=ag)(ki:y.put o v=some y')(aG:v≠.any/\∀m,v≠.aQ m):
  ey P L dst (.store T p x) ((L.a5 b (some ⟨sz,vals.set j y',true⟩)).put dst .any):=.store hp hb rfl rfl hi hy (by rw[hx];exact ki) (by rw[hx,hv,hva];exact t.h) (by rw[hx];exact aG)
end
theorem nx_{z x:LV}{zs:List LV}{k:Nat}(h1:zs[k]?=some z)(h2:lay x=lay z)(h3:x≠.any/\∀m,x≠.aQ m):∃z,zs[k]?=some z/\lay x=lay z/\x≠.any/\∀m,x≠.aQ m:=⟨z,h1,h2,h3⟩
theorem ac3{p:Prop}(h:p:=by(simp only[List.forall_mem_cons];repeat (first|exact(fun _ h=>by cases h)|refine⟨nx_ rfl cs ic,?_⟩))):p:=h
structure db (q:Prop):Prop where
 h:q
theorem eW{p q:Prop}(k:q)(h:db q->p:=by intro jj;refine jR ?_;refine aA ?_;refine pY (b:=_) rfl an ?_;exact jj.h):p:=h ⟨k⟩
theorem c9{p q:Prop}(k:q)(h:db q->p:=by intro jj;refine ai rfl nj ?_;refine bw ?_;exact jj.h):p:=h ⟨k⟩
theorem oP{p q:Prop}(k:q)(h:db q->p:=by intro jj;refine jR ?_;refine aA ?_;refine rX (b:=_) rfl an ?_;exact jj.h):p:=h ⟨k⟩
theorem xO{p q:Prop}(k:q)(h:db q->p:=by intro jj;refine cO (adl _) ?_;refine cp aK (agk _ _ (b7 _) (b7 _) aa aa) ?_;exact jj.h):p:=h ⟨k⟩
theorem adp{p q:Prop}(k:q)(h:db q->p:=by intro jj;refine eW ?_;refine iQ ?_;refine ai rfl (.bin rfl rfl (hA9)) ?_;refine aT ?_;refine ai rfl (.y4 (l:=[im,ie,iw]) rfl rfl aa bm) ?_;exact jj.h):p:=h ⟨k⟩
theorem aku{p q:Prop}(k:q)(h:db q->p:=by intro jj;refine fQ fx ?_;refine fQ fx ?_;refine fQ fx ?_;refine fQ fx ?_;exact jj.h):p:=h ⟨k⟩
theorem ny{p q:Prop}(k:q)(h:db q->p:=by intro jj;refine rX (b:=_) rfl (rfl) ?_;exact jj.h):p:=h ⟨k⟩
theorem acR{p q:Prop}(k:q)(h:db q->p:=by intro jj;refine ai rfl (.jQ (c:=aB (⟨fF i m,fF j m,0⟩:V3)) rfl (a7.pure _) (a7.aj _) (a7.isAgg _)) ?_;exact jj.h):p:=h ⟨k⟩
theorem anl{p q:Prop}(k:q)(h:db q->p:=by intro jj;refine bx ?_;refine eD rfl rfl (.gC (n:=0) (m:=p.length) ml ml om om om) ?_;refine bp ?_;refine da (fun(k:Nat) L=>(mS L [(8,⟨3,(p.take k).map ab,true⟩)] [(11,ak k),(10,ak p.length),(9,.list 3 (p.map ab)),(3,.ref 8 3 0 k)])) (fun k=>k<=p.length) (fun k=>p.length-k) 0 (Nat.zero_le _) ?_;exact jj.h):p:=h ⟨k⟩
theorem kz{p q:Prop}(k:q)(h:db q->p:=by intro jj;refine ai rfl azf ?_;exact jj.h):p:=h ⟨k⟩
theorem aoG{p q:Prop}(k:q)(h:db q->p:=by intro jj;refine kv ?_;refine jk 10 _ bj rfl ?_;refine aT ?_;refine kv ?_;refine jk 11 _ bj rfl ?_;refine dH rfl (.stE (e:=aB) (l:=(jU l k).set 0 ((jU l k).getD 1 default)) (i:=1) (a:=(jU l k).getD 0 default) rfl rfl rfl bm) ?_;exact jj.h):p:=h ⟨k⟩
theorem ax8{p q:Prop}(k:q)(h:db q->p:=by intro jj;refine fQ ib ?_;refine fQ ib ?_;refine fQ ib ?_;refine fQ ib ?_;exact jj.h):p:=h ⟨k⟩
theorem mb{P:Program}{H:bn}{ρ:Operand->LV}{T:TypeId}{p:Operand}{x:LV}(h:aq P H ρ (.load T p) x:=by first|(apply aq.ldB;exact rfl)|exact .ayt rfl rfl rfl TI.h|exact .az1 rfl rfl rfl TI.h|(apply aq.ldE;exact rfl;exact rfl;exact om)|exact .awW rfl rfl rfl TI.h|exact .auJ rfl rfl rfl TI.h|exact .ay3 rfl rfl rfl TI.h|exact .azi rfl rfl rfl TI.h|exact .azU rfl rfl rfl TI.h|exact .eP rfl rfl rfl rfl rfl rfl TI.h|(apply aq.ldp;exact rfl;exact rfl;exact rfl;exact cs;exact atp)|(apply aq.jQ;exact rfl;exact pu;exact cs;exact cs)):aq P H ρ (.load T p) x:=h
section
variable {P:Program} {H:bn} {ρ:Operand->LV} {T U:TypeId} {x y:Operand}
theorem aq.aI{a b:Int}(hx:ρ x=.v (.int .i64 a))(hy:ρ y=.v (.int .i64 b))(h1:-9223372036854775808<=a+b)(h2:a+b<=9223372036854775807):aq P H ρ (.binOp .add T x y U) (.v (.int .i64 (a+b))):=.bin hx hy (qD h1 h2)
theorem aq.sI{a b:Int}(hx:ρ x=.v (.int .i64 a))(hy:ρ y=.v (.int .i64 b))(h1:-9223372036854775808<=a-b)(h2:a-b<=9223372036854775807):aq P H ρ (.binOp .sub T x y U) (.v (.int .i64 (a-b))):=.bin hx hy (o5 h1 h2)
theorem aq.mI{a b:Int}(hx:ρ x=.v (.int .i64 a))(hy:ρ y=.v (.int .i64 b))(h1:-9223372036854775808<=a*b)(h2:a*b<=9223372036854775807):aq P H ρ (.binOp .mul T x y U) (.v (.int .i64 (a*b))):=.bin hx hy (agI h1 h2)
theorem aq.aU{a b:Nat}(hx:ρ x=.v (.int .u64 (a:Nat)))(hy:ρ y=.v (.int .u64 (b:Nat)))(h:a+b<18446744073709551616):aq P H ρ (.binOp .add T x y U) (.v (.int .u64 ((a+b:Nat):Int))):=.bin hx hy (amg h)
theorem aq.mU{a b:Nat}(hx:ρ x=.v (.int .u64 (a:Nat)))(hy:ρ y=.v (.int .u64 (b:Nat)))(h:a*b<18446744073709551616):aq P H ρ (.binOp .mul T x y U) (.v (.int .u64 ((a*b:Nat):Int))):=.bin hx hy (yQ h)
theorem aq.sU{a b:Nat}(hx:ρ x=.v (.int .u64 (a:Nat)))(hy:ρ y=.v (.int .u64 (b:Nat)))(h:b<=a)(h1:a<18446744073709551616):aq P H ρ (.binOp .sub T x y U) (.v (.int .u64 ((a-b:Nat):Int))):=.bin hx hy (amL h h1)
theorem aq.rU{a b:Nat}(hx:ρ x=.v (.int .u64 (a:Nat)))(hy:ρ y=.v (.int .u64 (b:Nat)))(h:0<b):aq P H ρ (.binOp .rem T x y U) (.v (.int .u64 ((a%b:Nat):Int))):=.bin hx hy (agD h)
theorem aq.oU{a b:Nat}(hx:ρ x=.v (.int .u64 ((a*4294967296:Nat):Int)))(hy:ρ y=.v (.int .u64 (b:Nat)))(h:b<4294967296)(h1:a<4294967296):aq P H ρ (.binOp .or T x y U) (.v (.int .u64 ((a*4294967296+b:Nat):Int))):=.bin hx hy (orU h h1)
theorem aq.hl{a:Nat}{k:IntKind}(hx:ρ x=.v (.int .u64 (a:Nat)))(hy:ρ y=.v (.int k 32))(h:a*4294967296<18446744073709551616):aq P H ρ (.binOp .shl T x y U) (.v (.int .u64 ((a*4294967296:Nat):Int))):=.sh hx hy (aa3 h)
theorem aq.hr{a:Nat}{k:IntKind}(hx:ρ x=.v (.int .u64 (a:Nat)))(hy:ρ y=.v (.int k 32)):aq P H ρ (.binOp .shr T x y U) (.v (.int .u64 ((a/4294967296:Nat):Int))):=.sh hx hy aAa
theorem aq.avY{a:Nat}{k:IntKind}(hx:ρ x=.v (.int .u64 (a:Nat)))(hy:ρ y=.v (.int k 63)):aq P H ρ (.binOp .shr T x y U) (.v (.int .u64 ((a/9223372036854775808:Nat):Int))):=.sh hx hy ayJ
end
theorem biA{P:Program}{H:bn}{ρ:Operand->LV}{o:BinOp}{T U:TypeId}{p y:Operand}{x:LV}(h:aq P H ρ (.binOp o T p y U) x:=by first|(apply aq.cmp;exact rfl;exact rfl;exact rfl;exact rfl)|(apply aq.aI;exact rfl;exact rfl;exact om;exact om)|(apply aq.sI;exact rfl;exact rfl;exact om;exact om)|(apply aq.mI;exact rfl;exact rfl;exact om;exact om)|(apply aq.aU;exact rfl;exact rfl;exact om)|(apply aq.mU;exact rfl;exact rfl;exact om)|(apply aq.sU;exact rfl;exact rfl;exact om;exact om)|(apply aq.qU;exact rfl;exact rfl;exact om;exact om)|(apply aq.rU;exact rfl;exact rfl;exact om)|(apply aq.oU;exact rfl;exact rfl;exact om;exact om)|(apply aq.hl;exact rfl;exact rfl;exact om)|(apply aq.hr;exact rfl;exact rfl)|(apply aq.avY;exact rfl;exact rfl)|(apply aq.beq;exact rfl;exact rfl;exact UN.h)|(apply aq.bne;exact rfl;exact rfl;exact UN.h)):aq P H ρ (.binOp o T p y U) x:=h
theorem ry{P:Program}{H:bn}{ρ:Operand->LV}{b:Builtin}{xs:Array Operand}{bH:Array TypeId}{x:LV}(h:aq P H ρ (.call ⟨.builtin b,xs,bH⟩) x:=by first|exact .arM rfl rfl UN.h|exact .um rfl rfl UN.h|exact .vF rfl rfl UN.h|exact .vQ rfl rfl UN.h|exact .acm rfl rfl UN.h|exact .vh rfl rfl UN.h|exact .min2 rfl rfl|exact .max2 rfl rfl):aq P H ρ (.call ⟨.builtin b,xs,bH⟩) x:=h
theorem srA{P:Program}{L L':St}{dst:Option Tmp}{T:TypeId}{p x:Operand}(h:ey P L dst (.store T p x) L':=by first|exact .aud rfl rfl rfl rfl TI.h|exact .asK rfl rfl rfl TI.h|exact .aAf rfl rfl rfl TI.h|(apply ey.stE;exact rfl;exact rfl;exact rfl;exact om)|exact .store rfl rfl rfl rfl rfl rfl rfl TI.h ic|(apply ey.p6;exact rfl;exact rfl;exact rfl;(first|exact(rfl:_=ab _)|exact(rfl:_=aB _)|exact(rfl:_=dj _)|exact(rfl:_=cP _)|exact(rfl:_=LV.agg _)|exact rfl);exact cs;exact cs;exact cs;exact ptp;exact ic)):ey P L dst (.store T p x) L':=h
theorem cvA{P:Program}{H:bn}{ρ:Operand->LV}{S D:TypeId}{p:Operand}{x:LV}(h:aq P H ρ (.convert S D p) x:=by first|exact .arC UN.h UN.h rfl|(apply aq.aem;exact UN.h;exact UN.h;exact rfl;exact om)|(apply aq.cvI;exact UN.h;exact UN.h;exact rfl;exact om;exact om)|exact .conv UN.h UN.h rfl):aq P H ρ (.convert S D p) x:=h
theorem afC{P:Program}{T:TypeId}{l:List (Nat×Bool)}{fs:List LV}(h:jn P T l)(e:fs.map lay=l):jn P T (fs.map lay):=e▸h
theorem aoY{P:Program}{H:bn}{ρ:Operand->LV}{T:TypeId}{p i:Operand}{x:LV}(h:aq P H ρ (.index T p i) x:=by(apply aq.ixa;exact rfl;exact rfl;exact om;exact rfl;exact pu;exact cs)):aq P H ρ (.index T p i) x:=h
theorem faA{P:Program}{H:bn}{ρ:Operand->LV}{T:TypeId}{p:Operand}{k:Nat}{x:LV}(h:aq P H ρ (.fieldAddr T p k) x:=by first|exact .wj rfl SI.h an|exact .sQ rfl SI.h rfl|(refine .sQ rfl (afC SI.h cs) rfl)):aq P H ρ (.fieldAddr T p k) x:=h
theorem sa{P:Program}{H:bn}{ρ:Operand->LV}{T:TypeId}{p i:Operand}{x:LV}(h:aq P H ρ (.indexAddr T p i) x:=by first|(apply aq.y4;exact rfl;exact rfl;exact om;exact om)|(apply aq.ixR;exact rfl;exact rfl;exact om;exact om)|(apply aq.ixe;exact rfl;exact rfl;exact om;exact om)|(apply aq.ixb;exact rfl;exact rfl;exact om;exact rfl;exact cs)):aq P H ρ (.indexAddr T p i) x:=h
section
variable {P:Program} {dr:Bool} {ops:Array Oper} {rest:List Oper} {L L':St} {K:St->Prop} {dst:Option Tmp} {d:Nat} {ty:TypeId} {pos:String} {af:Array Edge} {j:Nat} {w:Bool} {r:LV} {bk:aL}
theorem arQ{T:TypeId}{p:Operand}(h:aq P L.heap L.ev (.load T p) r)(kk:opsL P dr ops rest (L.put dst r) K):opsL P dr ops (⟨dst,(.load T p),ty,pos,af,none⟩::rest) L K:=ai rfl h kk
theorem avC{T:TypeId}{p:Operand}(hg:cI ops L ⟨dst,(.load T p),ty,pos,af,some (j,w)⟩ true)(h:aq P L.heap L.ev (.load T p) r)(kk:opsL P dr ops rest (L.put dst r) K):opsL P dr ops (⟨dst,(.load T p),ty,pos,af,some (j,w)⟩::rest) L K:=ai hg h kk
theorem azy{o:BinOp}{T U:TypeId}{p y:Operand}(h:aq P L.heap L.ev (.binOp o T p y U) r)(kk:opsL P dr ops rest (L.put dst r) K):opsL P dr ops (⟨dst,(.binOp o T p y U),ty,pos,af,none⟩::rest) L K:=ai rfl h kk
theorem asj{o:BinOp}{T U:TypeId}{p y:Operand}(hg:cI ops L ⟨dst,(.binOp o T p y U),ty,pos,af,some (j,w)⟩ true)(h:aq P L.heap L.ev (.binOp o T p y U) r)(kk:opsL P dr ops rest (L.put dst r) K):opsL P dr ops (⟨dst,(.binOp o T p y U),ty,pos,af,some (j,w)⟩::rest) L K:=ai hg h kk
theorem avX{b:Builtin}{xs:Array Operand}{bH:Array TypeId}(h:aq P L.heap L.ev (.call ⟨.builtin b,xs,bH⟩) r)(kk:opsL P dr ops rest (L.put dst r) K):opsL P dr ops (⟨dst,(.call ⟨.builtin b,xs,bH⟩),ty,pos,af,none⟩::rest) L K:=ai rfl h kk
theorem aAE{b:Builtin}{xs:Array Operand}{bH:Array TypeId}(hg:cI ops L ⟨dst,(.call ⟨.builtin b,xs,bH⟩),ty,pos,af,some (j,w)⟩ true)(h:aq P L.heap L.ev (.call ⟨.builtin b,xs,bH⟩) r)(kk:opsL P dr ops rest (L.put dst r) K):opsL P dr ops (⟨dst,(.call ⟨.builtin b,xs,bH⟩),ty,pos,af,some (j,w)⟩::rest) L K:=ai hg h kk
theorem av1{T:TypeId}{p:Operand}{k:Nat}(h:aq P L.heap L.ev (.fieldAddr T p k) r)(kk:opsL P dr ops rest (L.put dst r) K):opsL P dr ops (⟨dst,(.fieldAddr T p k),ty,pos,af,none⟩::rest) L K:=ai rfl h kk
theorem aAz{T:TypeId}{p:Operand}{k:Nat}(hg:cI ops L ⟨dst,(.fieldAddr T p k),ty,pos,af,some (j,w)⟩ true)(h:aq P L.heap L.ev (.fieldAddr T p k) r)(kk:opsL P dr ops rest (L.put dst r) K):opsL P dr ops (⟨dst,(.fieldAddr T p k),ty,pos,af,some (j,w)⟩::rest) L K:=ai hg h kk
theorem ax7{T:TypeId}{p y:Operand}(h:aq P L.heap L.ev (.index T p y) r)(kk:opsL P dr ops rest (L.put dst r) K):opsL P dr ops (⟨dst,(.index T p y),ty,pos,af,none⟩::rest) L K:=ai rfl h kk
theorem asa{T:TypeId}{p y:Operand}(hg:cI ops L ⟨dst,(.index T p y),ty,pos,af,some (j,w)⟩ true)(h:aq P L.heap L.ev (.index T p y) r)(kk:opsL P dr ops rest (L.put dst r) K):opsL P dr ops (⟨dst,(.index T p y),ty,pos,af,some (j,w)⟩::rest) L K:=ai hg h kk
theorem awX{T:TypeId}{p y:Operand}(h:aq P L.heap L.ev (.indexAddr T p y) r)(kk:opsL P dr ops rest (L.put dst r) K):opsL P dr ops (⟨dst,(.indexAddr T p y),ty,pos,af,none⟩::rest) L K:=ai rfl h kk
theorem azx{T:TypeId}{p y:Operand}(hg:cI ops L ⟨dst,(.indexAddr T p y),ty,pos,af,some (j,w)⟩ true)(h:aq P L.heap L.ev (.indexAddr T p y) r)(kk:opsL P dr ops rest (L.put dst r) K):opsL P dr ops (⟨dst,(.indexAddr T p y),ty,pos,af,some (j,w)⟩::rest) L K:=ai hg h kk
theorem asQ{p:Operand}{k:Nat}(h:aq P L.heap L.ev (.extract p k) r)(kk:opsL P dr ops rest (L.put dst r) K):opsL P dr ops (⟨dst,(.extract p k),ty,pos,af,none⟩::rest) L K:=ai rfl h kk
theorem az8{p:Operand}{k:Nat}(hg:cI ops L ⟨dst,(.extract p k),ty,pos,af,some (j,w)⟩ true)(h:aq P L.heap L.ev (.extract p k) r)(kk:opsL P dr ops rest (L.put dst r) K):opsL P dr ops (⟨dst,(.extract p k),ty,pos,af,some (j,w)⟩::rest) L K:=ai hg h kk
theorem ar8{p y z:Operand}(h:aq P L.heap L.ev (.pick p y z) r)(kk:opsL P dr ops rest (L.put dst r) K):opsL P dr ops (⟨dst,(.pick p y z),ty,pos,af,none⟩::rest) L K:=ai rfl h kk
theorem atm{p y z:Operand}(hg:cI ops L ⟨dst,(.pick p y z),ty,pos,af,some (j,w)⟩ true)(h:aq P L.heap L.ev (.pick p y z) r)(kk:opsL P dr ops rest (L.put dst r) K):opsL P dr ops (⟨dst,(.pick p y z),ty,pos,af,some (j,w)⟩::rest) L K:=ai hg h kk
theorem awy{T U:TypeId}{p:Operand}(h:aq P L.heap L.ev (.convert T U p) r)(kk:opsL P dr ops rest (L.put dst r) K):opsL P dr ops (⟨dst,(.convert T U p),ty,pos,af,none⟩::rest) L K:=ai rfl h kk
theorem auu{T U:TypeId}{p:Operand}(hg:cI ops L ⟨dst,(.convert T U p),ty,pos,af,some (j,w)⟩ true)(h:aq P L.heap L.ev (.convert T U p) r)(kk:opsL P dr ops rest (L.put dst r) K):opsL P dr ops (⟨dst,(.convert T U p),ty,pos,af,some (j,w)⟩::rest) L K:=ai hg h kk
theorem avv{u:UnOp}{T:TypeId}{p:Operand}(h:aq P L.heap L.ev (.unOp u T p) r)(kk:opsL P dr ops rest (L.put dst r) K):opsL P dr ops (⟨dst,(.unOp u T p),ty,pos,af,none⟩::rest) L K:=ai rfl h kk
theorem arO{u:UnOp}{T:TypeId}{p:Operand}(hg:cI ops L ⟨dst,(.unOp u T p),ty,pos,af,some (j,w)⟩ true)(h:aq P L.heap L.ev (.unOp u T p) r)(kk:opsL P dr ops rest (L.put dst r) K):opsL P dr ops (⟨dst,(.unOp u T p),ty,pos,af,some (j,w)⟩::rest) L K:=ai hg h kk
theorem axP{T:TypeId}{p:Operand}{k:Nat}(h:aq P L.heap L.ev (.field T p k) r)(kk:opsL P dr ops rest (L.put dst r) K):opsL P dr ops (⟨dst,(.field T p k),ty,pos,af,none⟩::rest) L K:=ai rfl h kk
theorem avu{T:TypeId}{p:Operand}{k:Nat}(hg:cI ops L ⟨dst,(.field T p k),ty,pos,af,some (j,w)⟩ true)(h:aq P L.heap L.ev (.field T p k) r)(kk:opsL P dr ops rest (L.put dst r) K):opsL P dr ops (⟨dst,(.field T p k),ty,pos,af,some (j,w)⟩::rest) L K:=ai hg h kk
theorem auy{p:Operand}(h:aq P L.heap L.ev (.nilCheck p) r)(kk:opsL P dr ops rest (L.put dst r) K):opsL P dr ops (⟨dst,(.nilCheck p),ty,pos,af,none⟩::rest) L K:=ai rfl h kk
theorem auK{p:Operand}(hg:cI ops L ⟨dst,(.nilCheck p),ty,pos,af,some (j,w)⟩ true)(h:aq P L.heap L.ev (.nilCheck p) r)(kk:opsL P dr ops rest (L.put dst r) K):opsL P dr ops (⟨dst,(.nilCheck p),ty,pos,af,some (j,w)⟩::rest) L K:=ai hg h kk
theorem vd{T:TypeId}{ps:Array (Nat×Operand)}(h:aq P L.heap L.ev (.build T ps) r)(kk:opsL P dr ops rest (L.put dst r) K):opsL P dr ops (⟨dst,(.build T ps),ty,pos,af,none⟩::rest) L K:=ai rfl h kk
theorem azb{T:TypeId}{ps:Array (Nat×Operand)}(hg:cI ops L ⟨dst,(.build T ps),ty,pos,af,some (j,w)⟩ true)(h:aq P L.heap L.ev (.build T ps) r)(kk:opsL P dr ops rest (L.put dst r) K):opsL P dr ops (⟨dst,(.build T ps),ty,pos,af,some (j,w)⟩::rest) L K:=ai hg h kk
theorem ayY{p:Operand}(hg:cI ops L ⟨dst,(.move p),ty,pos,af,some (j,w)⟩ true)(h:aq P L.heap L.ev (.move p) r)(kk:opsL P dr ops rest (L.put dst r) K):opsL P dr ops (⟨dst,(.move p),ty,pos,af,some (j,w)⟩::rest) L K:=ai hg h kk
theorem aAG{p:Operand}(hg:cI ops L ⟨dst,(.assign p),ty,pos,af,some (j,w)⟩ true)(h:aq P L.heap L.ev (.assign p) r)(kk:opsL P dr ops rest (L.put dst r) K):opsL P dr ops (⟨dst,(.assign p),ty,pos,af,some (j,w)⟩::rest) L K:=ai hg h kk
theorem av9{T:TypeId}{p:Operand}(hd:L.heap d=none)(h:cH P L.ev d (.box T p) r bk)(kk:opsL P dr ops rest ((L.a5 d (some bk)).put (some d) r) K):opsL P dr ops (⟨some d,(.box T p),ty,pos,af,none⟩::rest) L K:=eD rfl hd h kk
theorem auM{T:TypeId}{p:Operand}(hg:cI ops L ⟨some d,(.box T p),ty,pos,af,some (j,w)⟩ true)(hd:L.heap d=none)(h:cH P L.ev d (.box T p) r bk)(kk:opsL P dr ops rest ((L.a5 d (some bk)).put (some d) r) K):opsL P dr ops (⟨some d,(.box T p),ty,pos,af,some (j,w)⟩::rest) L K:=eD hg hd h kk
theorem ay4{T:TypeId}(hd:L.heap d=none)(h:cH P L.ev d (.alloc T) r bk)(kk:opsL P dr ops rest ((L.a5 d (some bk)).put (some d) r) K):opsL P dr ops (⟨some d,(.alloc T),ty,pos,af,none⟩::rest) L K:=eD rfl hd h kk
theorem asx{T:TypeId}(hg:cI ops L ⟨some d,(.alloc T),ty,pos,af,some (j,w)⟩ true)(hd:L.heap d=none)(h:cH P L.ev d (.alloc T) r bk)(kk:opsL P dr ops rest ((L.a5 d (some bk)).put (some d) r) K):opsL P dr ops (⟨some d,(.alloc T),ty,pos,af,some (j,w)⟩::rest) L K:=eD hg hd h kk
theorem azH{T:TypeId}{n:Nat}{ps:Array (Nat×Operand)}(hd:L.heap d=none)(h:cH P L.ev d (.buildSlice T n ps) r bk)(kk:opsL P dr ops rest ((L.a5 d (some bk)).put (some d) r) K):opsL P dr ops (⟨some d,(.buildSlice T n ps),ty,pos,af,none⟩::rest) L K:=eD rfl hd h kk
theorem ayy{T:TypeId}{n:Nat}{ps:Array (Nat×Operand)}(hg:cI ops L ⟨some d,(.buildSlice T n ps),ty,pos,af,some (j,w)⟩ true)(hd:L.heap d=none)(h:cH P L.ev d (.buildSlice T n ps) r bk)(kk:opsL P dr ops rest ((L.a5 d (some bk)).put (some d) r) K):opsL P dr ops (⟨some d,(.buildSlice T n ps),ty,pos,af,some (j,w)⟩::rest) L K:=eD hg hd h kk
theorem atQ{T:TypeId}{p y:Operand}(h:ey P L dst (.store T p y) L')(kk:opsL P dr ops rest L' K):opsL P dr ops (⟨dst,.store T p y,ty,pos,af,none⟩::rest) L K:=dH rfl h kk
theorem aA7{T:TypeId}{p y:Operand}(hg:cI ops L ⟨dst,.store T p y,ty,pos,af,some (j,w)⟩ true)(h:ey P L dst (.store T p y) L')(kk:opsL P dr ops rest L' K):opsL P dr ops (⟨dst,.store T p y,ty,pos,af,some (j,w)⟩::rest) L K:=dH hg h kk
theorem ayV{op:Op}(hg:cI ops L ⟨dst,op,ty,pos,af,some (j,w)⟩ false)(kk:opsL P dr ops rest (L.put dst (.aQ [])) K):opsL P dr ops (⟨dst,op,ty,pos,af,some (j,w)⟩::rest) L K:=fQ hg kk
end
theorem kK{p:Prop}(h:p:=by first|exact gr (v:=true) rfl rfl qe rfl|exact gr (v:=false) rfl rfl qe rfl):p:=h
theorem zGf{p:Prop}(h:p:=by first|exact gr (v:=true) rfl rfl qe rfl|exact gr (v:=false) rfl rfl qe rfl|exact awm rfl rfl):p:=h
theorem aAF{P:Program}{L:St}{Q:gI->St->Prop}{l:List Oper}{id:Nat}(hm:(eH (l.length+1)).any (fun m=>yf l.toArray m [])=true)(h:opsL P true l.toArray l L (Q .normal)):bM P (.region id l.toArray true) Q L:=by
 obtain⟨m,_,hm⟩:=List.any_eq_true.1 hm;exact azY m hm h
theorem eh{p q:Prop}(k:q)(h:db q->p:=by intro kk;first|(apply axI;exact kk.h)|(apply az6;exact kk.h)|(apply mv;exact kk.h)|(apply asg;exact kk.h)|(apply nL;exact nf;exact kk.h)|(apply axF;exact kk.h)|(apply aAF;decide +kernel;exact kk.h)|(apply arQ;exact mb;exact kk.h)|(apply azy;exact biA;exact kk.h)|(apply avX;exact ry;exact kk.h)|(apply av1;exact faA;exact kk.h)|(apply awX;exact sa;exact kk.h)|(apply ax7;exact aoY;exact kk.h)|(apply asQ;exact .extract rfl rfl nt0;exact kk.h)|(apply atQ;exact srA;exact kk.h)|(apply av9;exact rfl;(first|(apply cH.bxE;exact rfl)|exact .box ic);exact kk.h)|(apply ay4;exact rfl;(first|exact .alE|exact .alloc ZI.h);exact kk.h)|(apply ar8;(first|exact .uf rfl qe|exact .kO rfl qe);exact kk.h)|(apply awy;exact cvA;exact kk.h)|(apply avv;(first|exact .not rfl|exact .neg rfl);exact kk.h)|(apply axP;(first|exact .field rfl SI.h rfl rfl|exact .field rfl (afC SI.h cs) rfl pu);exact kk.h)|(apply azH;exact rfl;(first|(apply cH.l1;exact rfl;decide;decide)|exact .l0|(apply cH.l2;exact rfl;exact rfl;decide;decide)|(apply cH.l3;exact rfl;exact rfl;exact rfl;decide;decide)|(apply cH.l4;exact rfl;exact rfl;exact rfl;exact rfl;decide;decide));exact kk.h)|(apply vd;(first|exact .aB8 rfl rfl rfl|exact .aCF rfl rfl rfl rfl|exact .aza rfl rfl|exact .aBH rfl rfl rfl|exact .aqj SI.h ZI.h rfl rfl|exact .bd rfl nes|exact .bd cs ac3|exact .iK laE ac3);exact kk.h)|(apply auy;(first|exact .abn rfl|exact .aa6 rfl);exact kk.h)|(apply avq;exact kk.h)|(apply atb;exact kk.h)|(apply aym;exact kk.h)|(apply ayr;exact kk.h)|(apply asD;exact kk.h)|(apply pY;exact rfl;exact qe;exact kk.h)|(apply rX;exact rfl;exact qe;exact kk.h)|(apply axB;exact kk.h)|(apply aBj;exact kk.h)|(apply atg;exact kk.h)|(apply atA;exact kk.h)|(apply awk;decide;exact kk.h)|(apply ayV;exact zGf;exact kk.h)|(apply ayY;exact kK;(exact .move _);exact kk.h)|(apply avC;exact kK;(exact mb);exact kk.h)|(apply asj;exact kK;(exact biA);exact kk.h)|(apply aAE;exact kK;(exact ry);exact kk.h)|(apply aAz;exact kK;(exact faA);exact kk.h)|(apply azx;exact kK;(exact sa);exact kk.h)|(apply asa;exact kK;(exact aoY);exact kk.h)|(apply az8;exact kK;(exact .extract rfl rfl nt0);exact kk.h)|(apply aA7;exact kK;exact srA;exact kk.h)|(apply aAG;exact kK;(exact .assign _);exact kk.h)|(apply auM;exact kK;exact rfl;(first|(apply cH.bxE;exact rfl)|exact .box ic);exact kk.h)|(apply asx;exact kK;exact rfl;(first|exact .alE|exact .alloc ZI.h);exact kk.h)|(apply atm;exact kK;(first|exact .uf rfl qe|exact .kO rfl qe);exact kk.h)|(apply auu;exact kK;(exact cvA);exact kk.h)|(apply arO;exact kK;(first|exact .not rfl|exact .neg rfl);exact kk.h)|(apply avu;exact kK;(first|exact .field rfl SI.h rfl rfl|exact .field rfl (afC SI.h cs) rfl pu);exact kk.h)|(apply ayy;exact kK;exact rfl;(first|(apply cH.l1;exact rfl;decide;decide)|exact .l0|(apply cH.l2;exact rfl;exact rfl;decide;decide)|(apply cH.l3;exact rfl;exact rfl;exact rfl;decide;decide)|(apply cH.l4;exact rfl;exact rfl;exact rfl;exact rfl;decide;decide));exact kk.h)|(apply azb;exact kK;(first|exact .aqj SI.h ZI.h rfl rfl|exact .bd rfl nes|exact .bd cs ac3|exact .iK laE ac3);exact kk.h)|(apply auK;exact kK;(first|exact .abn rfl|exact .aa6 rfl);exact kk.h)):p:=h ⟨k⟩
theorem aT{p q:Prop}(k:q)(h:db q->p:=by intro hq;(iterate 1 refine eh ?_);exact hq.h):p:=h ⟨k⟩
theorem aR{p q:Prop}(k:q)(h:db q->p:=by intro hq;(iterate 2 refine eh ?_);exact hq.h):p:=h ⟨k⟩
theorem bw{p q:Prop}(k:q)(h:db q->p:=by intro hq;(iterate 3 refine eh ?_);exact hq.h):p:=h ⟨k⟩
theorem ay{p q:Prop}(k:q)(h:db q->p:=by intro hq;(iterate 4 refine eh ?_);exact hq.h):p:=h ⟨k⟩
theorem aV{p q:Prop}(k:q)(h:db q->p:=by intro hq;(iterate 5 refine eh ?_);exact hq.h):p:=h ⟨k⟩
theorem aA{p q:Prop}(k:q)(h:db q->p:=by intro hq;(iterate 6 refine eh ?_);exact hq.h):p:=h ⟨k⟩
theorem aP{p q:Prop}(k:q)(h:db q->p:=by intro hq;(iterate 7 refine eh ?_);exact hq.h):p:=h ⟨k⟩
theorem bu{p q:Prop}(k:q)(h:db q->p:=by intro hq;(iterate 8 refine eh ?_);exact hq.h):p:=h ⟨k⟩
theorem bx{p q:Prop}(k:q)(h:db q->p:=by intro hq;(iterate 9 refine eh ?_);exact hq.h):p:=h ⟨k⟩
theorem cb{p q:Prop}(k:q)(h:db q->p:=by intro hq;(iterate 10 refine eh ?_);exact hq.h):p:=h ⟨k⟩
theorem cg{p q:Prop}(k:q)(h:db q->p:=by intro hq;(iterate 11 refine eh ?_);exact hq.h):p:=h ⟨k⟩
theorem bp{p q:Prop}(k:q)(h:db q->p:=by intro hq;(iterate 12 refine eh ?_);exact hq.h):p:=h ⟨k⟩
theorem dk{p q:Prop}(k:q)(h:db q->p:=by intro hq;(iterate 13 refine eh ?_);exact hq.h):p:=h ⟨k⟩
theorem dx{p q:Prop}(k:q)(h:db q->p:=by intro hq;(iterate 14 refine eh ?_);exact hq.h):p:=h ⟨k⟩
theorem gA{p q:Prop}(k:q)(h:db q->p:=by intro hq;(iterate 15 refine eh ?_);exact hq.h):p:=h ⟨k⟩
theorem nB{p q:Prop}(k:q)(h:db q->p:=by intro hq;(iterate 16 refine eh ?_);exact hq.h):p:=h ⟨k⟩
theorem jX{p q:Prop}(k:q)(h:db q->p:=by intro hq;(iterate 17 refine eh ?_);exact hq.h):p:=h ⟨k⟩
theorem qP{p q:Prop}(k:q)(h:db q->p:=by intro hq;(iterate 18 refine eh ?_);exact hq.h):p:=h ⟨k⟩
theorem nk{p q:Prop}(k:q)(h:db q->p:=by intro hq;(iterate 19 refine eh ?_);exact hq.h):p:=h ⟨k⟩
theorem iQ{p q:Prop}(k:q)(h:db q->p:=by intro hq;(iterate 20 refine eh ?_);exact hq.h):p:=h ⟨k⟩
theorem w9{p q:Prop}(k:q)(h:db q->p:=by intro hq;(iterate 21 refine eh ?_);exact hq.h):p:=h ⟨k⟩
theorem aip{p q:Prop}(k:q)(h:db q->p:=by intro hq;(iterate 22 refine eh ?_);exact hq.h):p:=h ⟨k⟩
theorem ur{p q:Prop}(k:q)(h:db q->p:=by intro hq;(iterate 23 refine eh ?_);exact hq.h):p:=h ⟨k⟩
theorem wX{p q:Prop}(k:q)(h:db q->p:=by intro hq;(iterate 24 refine eh ?_);exact hq.h):p:=h ⟨k⟩
theorem tE{p q:Prop}(k:q)(h:db q->p:=by intro hq;(iterate 25 refine eh ?_);exact hq.h):p:=h ⟨k⟩
theorem arV{p q:Prop}(k:q)(h:db q->p:=by intro hq;(iterate 26 refine eh ?_);exact hq.h):p:=h ⟨k⟩
theorem afJ{p q:Prop}(k:q)(h:db q->p:=by intro hq;(iterate 27 refine eh ?_);exact hq.h):p:=h ⟨k⟩
theorem anT{p q:Prop}(k:q)(h:db q->p:=by intro hq;(iterate 28 refine eh ?_);exact hq.h):p:=h ⟨k⟩
theorem agr{p q:Prop}(k:q)(h:db q->p:=by intro hq;(iterate 29 refine eh ?_);exact hq.h):p:=h ⟨k⟩
theorem ayI{p q:Prop}(k:q)(h:db q->p:=by intro hq;(iterate 31 refine eh ?_);exact hq.h):p:=h ⟨k⟩
theorem aAv{p q:Prop}(k:q)(h:db q->p:=by intro hq;(iterate 32 refine eh ?_);exact hq.h):p:=h ⟨k⟩
theorem arA{p q:Prop}(k:q)(h:db q->p:=by intro hq;(iterate 33 refine eh ?_);exact hq.h):p:=h ⟨k⟩
theorem anI{p q:Prop}(k:q)(h:db q->p:=by intro hq;(iterate 34 refine eh ?_);exact hq.h):p:=h ⟨k⟩
theorem awn{p q:Prop}(k:q)(h:db q->p:=by intro hq;(iterate 54 refine eh ?_);exact hq.h):p:=h ⟨k⟩
theorem axR{p q:Prop}(k:q)(h:db q->p:=by intro hq;(iterate 55 refine eh ?_);exact hq.h):p:=h ⟨k⟩
theorem axT{p q:Prop}(k:q)(h:db q->p:=by intro hq;(iterate 57 refine eh ?_);exact hq.h):p:=h ⟨k⟩
theorem cO{P:Program}{f:FuncId}{args:List LV}{r:LV}(hk:ar P f args r){p q:Prop}(k:q)(h:db q->ar P f args r->p:=by intro hq hc;(repeat refine eh ?_);refine cp bK hc ?_;exact hq.h):p:=h ⟨k⟩ hk
theorem bC{P:Program}{f:FuncId}{args:List LV}{r:LV}(hk:ar P f args r){p q:Prop}(k:q)(h:db q->ar P f args r->p:=by intro hq hc;(repeat refine eh ?_);refine cp aK hc ?_;exact hq.h):p:=h ⟨k⟩ hk
theorem kP{P:Program}{f:FuncId}{args:List LV}{r:LV}(hk:ar P f args r){p q:Prop}(k:q)(h:db q->ar P f args r->p:=by intro hq hc;(repeat refine eh ?_);refine cp iM hc ?_;exact hq.h):p:=h ⟨k⟩ hk
theorem yc4{P:Program}{f:FuncId}{args:List LV}{r:LV}(hk:ar P f args r){p q:Prop}(k:q)(h:db q->ar P f args r->p:=by intro hq hc;(repeat refine eh ?_);refine cp am4 hc ?_;exact hq.h):p:=h ⟨k⟩ hk
theorem yc0{P:Program}{f:FuncId}{args:List LV}{r:LV}(hk:ar P f args r){p q:Prop}(k:q)(h:db q->ar P f args r->p:=by intro hq hc;(repeat refine eh ?_);refine cp am0 hc ?_;exact hq.h):p:=h ⟨k⟩ hk
end Go.Lg
end
