/- Texts LgY, LgR, LgG, LgS, LgT, LgU, LgV, LgW, LgX, LgC, LgD of this proof, joined. -/
import Derived.Test.YtckppbhafancnaaGreatQT2
import Derived.Laws.Cover3
set_option linter.unusedVariables false
set_option linter.unusedSimpArgs false
open Array renaming ext'->vC,ext_getElem?->ap0,getD_eq_getD_getElem?->dG,getElem?_eq_getElem->pE,getElem?_eq_some_iff->nA,getElem?_setIfInBounds_ne->ka,getElem?_setIfInBounds_self_of_lt->oz,mem_toList_iff->af0,replicate->rL
open BitVec renaming ofInt->uq,toNat_ofNat->aaY,toNat_or->al6
open Bool renaming and_eq_true->kI,not_eq_true->aaG,not_eq_true'->xC,or_eq_true->oN
open Classical renaming byContradiction->pY
open Int renaming ediv_nonneg->asU,fdiv_eq_ediv_of_nonneg->akF,natCast_dvd_natCast->amr,neg_mul->aib
open List renaming all_eq_true->pO,contains_iff_mem->pS,countP_eq_zero->auv,drop_eq_getElem_cons->aaC,drop_of_length_le->kg,drop_zero->mn,foldl->tW,getD_eq_getElem?_getD->bp,getElem?_cons_zero->rj,getElem?_drop->tc,getElem?_eq_getElem->b7,getElem?_eq_none->yj,getElem?_eq_some_iff->pj,getElem?_set_self->aug,getElem?_take->anT,getLast_cons->ap4,getLast_eq_getElem->apw,length_cons->rC,length_take->eP,map->tF,map_congr_left->rz,map_cons->nZ,map_take->xR,mem_append->o8,mem_cons->fx,mem_filterMap->yL,mem_map->cQ,mem_of_getElem?->sR,mem_range->qy,mem_singleton->gS,mem_toArray->awH,not_mem_nil->jy,range->c9,replicate->ay,set->vx,take_length->nT,take_of_length_le->dg,take_succ_eq_append_getElem->ab5
open List.cons renaming injEq->fP
open Nat renaming add_comm->qB,add_mul->iA,add_right_comm->ala,add_sub_cancel->mi,add_zero->mS,beq->oJ,beq_eq->yD,div_add_mod->ac1,div_eq_of_lt->abn,div_le_self->vF,div_lt_iff_lt_mul->ot,eq_zero_or_pos->ahR,gcd_comm->rD,gcd_dvd_left->abg,le_div_iff_mul_le->zq,le_max_left->atG,le_max_right->amq,le_of_eq->adY,le_of_lt->yB,le_refl->bq,le_sub_one_of_lt->auY,le_trans->ba,lt_of_le_of_lt->uP,lt_of_lt_of_le->yU,lt_of_mul_lt_mul_right->axn,lt_or_ge->gC,lt_trans->aow,min_eq_left->mf,mod_eq_of_lt->iW,mod_self->aw8,mul_add->eJ,mul_add_div->axh,mul_assoc->fM,mul_comm->fA,mul_le_mul->mM,mul_le_mul_left->kv,mul_le_mul_right->fU,mul_left_comm->ac5,mul_lt_mul_of_pos_right->akH,mul_mod_mul_right->auu,mul_pos->mG,mul_right_comm->ayB,mul_zero->aap,not_lt->anb,one_mul->aft,or_comm->arP,pos_of_ne_zero->vD,pow_add->mg,pow_le_pow_right->mh,pow_pos->my,pow_succ->jt,shiftLeft_add_eq_or_of_lt->alj,shiftLeft_eq->alI,strongRecOn->abZ,sub_self->qn,zero_add->fF,zero_le->b8
open Option renaming getD_some->aag,isNone_iff_eq_none->xy
open Option.some renaming injEq->fB
open Rat renaming div_def->iV,mkRat_add_mkRat->alD,mkRat_self->aui,neg_mkRat->aoT,not_le->axS,num_mkRat->awA,num_nonneg->avF
section
set_option linter.unusedVariables false
set_option linter.unusedSimpArgs false
namespace Go.Lg
def val:List Nat->Nat
 | []=>0
 | x :: xs=>x+4294967296*val xs
def bY (l:List Nat):Prop:=∀ x∈l,x<4294967296
def abu:Nat->Nat->List Nat
 | 0,_=>[]
 | k+1,n=>if n=0 then [] else n % 4294967296 :: abu k (n/4294967296)
def ao (n:Nat):List Nat:=abu n n
theorem aiz:∀ k,abu k 0=[]
 | 0=>rfl
 | k+1=>by simp [abu]
theorem apP:∀ (k j n:Nat),n<=k->n<=j->abu k n=abu j n
 | 0,j,n,h,_=>by
   have:n=0:=by omega
   subst this;rw [aiz,aiz]
 | k+1,0,n,_,h=>by
   have:n=0:=by omega
   subst this;rw [aiz,aiz]
 | k+1,j+1,n,h1,h2=>by
   simp only [abu]
   split
   ·rfl
   ·rw [apP k j (n/4294967296) ae ae]
theorem wN:ao 0=[]:=rfl
theorem abt {n:Nat} (h:0<n):ao n=n % 4294967296 :: ao (n/4294967296):=by
 unfold ao
 obtain⟨k,rfl⟩:∃ k,n=k+1:=⟨n-1,ae⟩
 rw [abu,if_neg ae,apP k ((k+1)/4294967296) _ ae (bq _)]
theorem cq (n:Nat):val (ao n)=n:=by
 induction n using abZ with
 | _ n ih =>
  by_cases h:n=0
  ·subst h;rfl
  ·rw [abt ae,val,ih (n/4294967296) ae];omega
theorem cT (n:Nat):bY (ao n):=by
 induction n using abZ with
 | _ n ih =>
  by_cases h:n=0
  ·subst h;intro x hx;cases hx
  ·rw [abt ae]
   intro x hx
   rcases fx.1 hx with rfl | hx
   ·omega
   ·exact ih _ ae x hx
def Can (l:List Nat):Prop:=∀ h:l≠[],l.getLast h≠0
theorem afB (n:Nat):Can (ao n):=by
 induction n using abZ with
 | _ n ih =>
  by_cases h:n=0
  ·subst h;intro h;exact absurd rfl h
  ·rw [abt ae]
   intro aX
   by_cases h2:n/4294967296=0
   ·have e:ao (n/4294967296)=[]:=by rw [h2];rfl
    simp only [e,List.getLast_singleton];omega
   ·have as4:ao (n/4294967296)≠[]:=by rw [abt ae];simp
    rw [ap4 as4]
    exact ih _ ae as4
theorem ayC {x:Nat} {xs:List Nat} (h:Can (x :: xs)):Can xs:=fun aX=>by
 have:=h (List.cons_ne_nil _ _)
 rwa [ap4 aX] at this
theorem awd:∀ {l:List Nat},Can l->l≠[]->0<val l
 | [],_,h=>absurd rfl h
 | [x],h,_=>by have:=h aM;simp at this;simp [val];omega
 | x :: y :: l,h,_=>by
   have:=awd (ayC h) aM
   simp only [val] at this ⊢;omega
theorem avA:∀ {l:List Nat},bY l->Can l->ao (val l)=l
 | [],_,_=>rfl
 | x :: xs,h1,h2=>by
   have hp:=awd h2 aM
   have hx:=h1 x aM
   have ih:=avA (l:=xs) (fun y hy=>h1 y (by simp [hy])) (ayC h2)
   rw [abt hp]
   have e1:val (x :: xs) % 4294967296=x:=by simp only [val];omega
   have e2:val (x :: xs)/4294967296=val xs:=by simp only [val];omega
   rw [e1,e2,ih]
theorem acI:∀ {l:List Nat},bY l->val l<4294967296 ^ l.length
 | [],_=>by simp [val]
 | x :: xs,h=>by
   have ih:=acI (l:=xs) (fun y hy=>h y (by simp [hy]))
   have hx:=h x aM
   simp only [val,rC,jt]
   have:val xs+1<=4294967296 ^ xs.length:=ih
   have:=fU 4294967296 this
   omega
theorem aez:∀ (l m:List Nat),val (l++m)=val l+4294967296 ^ l.length*val m
 | [],m=>by simp [val]
 | x :: xs,m=>by
   simp only [List.cons_append,val,aez xs m,rC,jt]
   rw [eJ,<-fM,fA 4294967296 (4294967296 ^ xs.length)];omega
theorem ajy:∀ k,val (ay k 0)=0
 | 0=>rfl
 | k+1=>by simp [List.replicate_succ,val,ajy k]
theorem yc {n k:Nat} (h:n<4294967296 ^ k):(ao n).length<=k:=by
 induction k generalizing n with
 | zero =>
      have:n=0:=by simpa using h
      subst this;simp [wN]
 | succ k ih =>
  by_cases h0:n=0
  ·subst h0;simp [wN]
  ·rw [abt ae,rC]
   have:=ih (n:=n/4294967296) (by rw [ot ae];rwa [<-jt])
   omega
theorem vm {n k:Nat} (h:(ao n).length<=k):n<4294967296 ^ k:=by
 have h1:=acI (cT n)
 rw [cq] at h1
 exact yU h1 (mh ae h)
theorem aqT {n k:Nat}:(ao n).length<=k↔n<4294967296 ^ k:=⟨vm,yc⟩
theorem tv {n:Nat}:ao n=[]↔n=0:=by
 constructor
 ·intro h;have:=cq n;rw [h] at this;exact this.symm
 ·rintro rfl;rfl
theorem aqH {l m:List Nat} (h1:bY l) (h2:bY m):bY (l++m):=fun x hx=>by
 rcases o8.1 hx with h | h
 ·exact h1 x h
 ·exact h2 x h
theorem x6 {l:List Nat} (h:bY l) (k:Nat):bY (l.take k):=fun x hx=>h x (List.mem_of_mem_take hx)
theorem aC2 {l:List Nat} (h:bY l) (k:Nat):bY (l.drop k):=fun x hx=>h x (List.mem_of_mem_drop hx)
theorem wi (k:Nat):bY (ay k 0):=fun x hx=>by rw [(List.mem_replicate.1 hx).2];omega
theorem aIT {l:List Nat} (h:bY l) (k:Nat):l.getD k 0<4294967296:=by
 rw [bp]
 cases hq:l[k]? with
 | none=>simp
 | some x=>simpa using h x (sR hq)
theorem at9 {l:List Nat} {k:Nat} (h:k<l.length):val (l.take (k+1))=val (l.take k)+4294967296 ^ k*l.getD k 0:=by
 rw [ab5 h,aez,eP,mf ae,bp,b7 h]
 simp [val]
def jA:Nat->List Nat->Nat
 | 0,_=>0
 | n+1,l=>if l.getD n 0=0 then jA n l else n+1
theorem aln:∀ (n:Nat) (l:List Nat),jA n l<=n
 | 0,_=>by simp [jA]
 | n+1,l=>by simp only [jA];split;have:=aln n l;omega;omega
theorem aiZ:∀ (n:Nat) (l:List Nat),n<=l.length->Can (l.take (jA n l))/\val (l.take (jA n l))=val (l.take n)
 | 0,l,_=>by simp [jA,Can]
 | n+1,l,h=>by
   simp only [jA]
   split
   ·rename_i h0
    have ih:=aiZ n l ae
    refine⟨ih.1,ih.2.trans ?_⟩
    rw [at9 ae,h0];simp
   ·rename_i h0
    refine⟨fun aX=>?_,rfl⟩
    rw [apw]
    simp only [eP,mf h,mi,List.getElem_take]
    rw [bp,b7 ae] at h0
    exact h0
def yo (l:List Nat):List Nat:=l.take (jA l.length l)
theorem vY {l:List Nat} (h:bY l):yo l=ao (val l):=by
 have:=aiZ l.length l (bq _)
 rw [nT] at this
 rw [<-this.2]
 exact(avA (x6 h _) this.1).symm
def bw (n:Nat):LV:=.v (.int .u32 n)
def fZ (n:Int):LV:=.v (.int .i64 n)
theorem gv:iZ bw 1 false:=⟨fun _=>rfl,fun _=>rfl,fun _=>rfl⟩
theorem pP:iZ fZ 1 false:=⟨fun _=>rfl,fun _=>rfl,fun _=>rfl⟩
def fj (l:List Nat):LV:=.list 1 (l.map bw)
def bj (n:Nat):LV:=.list 1 ((ao n).map bw)
theorem kH (n:Nat):(bj n).pure=true:=by simp only [bj,LV.pure];exact a7 gv _
def jT (q:Rat):Nat:=if q.den=1 then 0 else q.den
@[irreducible] def ah (q:Rat):LV:=.agg [.v (.bool (decide (q<0))),bj q.num.natAbs,bj (jT q)]
theorem wz (q:Rat):ah q=.agg [.v (.bool (decide (q<0))),bj q.num.natAbs,bj (jT q)]:=by unfold ah;rfl
theorem ar:iZ ah 3 true:=by
 refine⟨fun q=>?_,fun q=>?_,fun q=>?_⟩
 ·rw [wz];rfl
 ·rw [wz];rfl
 ·rw [wz];simp [LV.pure,aN,kH]
theorem aAp (q:Rat):(ah q).at 0 1 false=some (.v (.bool (decide (q<0)))):=by rw [wz];rfl
theorem aFD (q:Rat):(ah q).at 1 1 false=some (bj q.num.natAbs):=by rw [wz];rfl
theorem aGd (q:Rat):(ah q).at 2 1 false=some (bj (jT q)):=by rw [wz];rfl
theorem rh (q:Rat):(ah q).at 0 3 true=some (ah q):=by
 have:=al7 (ah q) (ar.pure q)
 rwa [ar.aw,ar.isAgg] at this
theorem q8:ah 0=.agg [.v (.bool false),.list 1 [],.list 1 []]:=by rw [wz];rfl
@[irreducible] def aE (s:Rat × Rat):LV:=.agg [ah s.1,ah s.2]
theorem yN (s:Rat × Rat):aE s=.agg [ah s.1,ah s.2]:=by unfold aE;rfl
theorem ck:iZ aE 6 true:=by
 refine⟨fun s=>?_,fun s=>?_,fun s=>?_⟩<;>rw [yN]<;>simp [LV.aw,da,LV.isAgg,LV.pure,aN,ar.aw,ar.pure]
theorem aaQ (s:Rat × Rat):(aE s).at 0 6 true=some (aE s):=by
 have:=al7 (aE s) (ck.pure s)
 rwa [ck.aw,ck.isAgg] at this
theorem aqo (s:Rat × Rat):(aE s).at 0 3 true=some (ah s.1):=by
 rw [yN];simp [LV.at,uR,da,ar.aw,rh]
theorem auQ (s:Rat × Rat):(aE s).at 3 3 true=some (ah s.2):=by
 rw [yN];simp [LV.at,uR,da,ar.aw,rh]
theorem cU (q:Rat) (b:Nat):(ah q).kill b=ah q:=LV.mr b _ (ar.pure q)
theorem aV {α:Type} {e:α->LV} {sz:Nat} {ag:Bool} (h:iZ e sz ag) (b:Nat) (l:List α):bX b (l.map e)=l.map e:=aeQ b _ (a7 h l)
theorem eu (q:Rat × Rat) (b:Nat):(aE q).kill b=aE q:=LV.mr b _ (ck.pure q)
section
variable {Z:Nat->Prop} {μ:Nat->Option Nat} {w:World}
theorem gG {x:Value} (h:x.oneCell'=true):aB Z μ w (.v x) [x]:=by simp only [aB];exact⟨trivial,h⟩
theorem aem (sz:Nat):aB Z μ w (.list sz []) [.slice none 0 0]:=by simp only [aB];exact⟨none,0,0,rfl,rfl,bq _,.inl trivial,rfl⟩
theorem fk {l:List LV} {cs:List Value} (h:cC Z μ w l cs):aB Z μ w (.agg l) cs:=by simp only [aB];exact h
theorem fi:cC Z μ w [] []:=by simp only [cC]
theorem bB {x:LV} {xs:List LV} {c1 c2:List Value} (h1:c1.length=x.aw) (h2:aB Z μ w x c1) (h3:cC Z μ w xs c2):cC Z μ w (x :: xs) (c1++c2):=by
 simp only [cC];exact⟨c1,c2,rfl,h1,h2,h3⟩
theorem dD:aB Z μ w (ah 0) [.bool false,.slice none 0 0,.slice none 0 0]:=by
 rw [q8]
 exact fk (bB (c1:=[.bool false]) rfl (gG rfl) (bB (c1:=[.slice none 0 0]) rfl (aem 1) (bB (c1:=[.slice none 0 0]) rfl (aem 1) fi)))
end
end Go.Lg
namespace Go.Lg
abbrev cS (n:Nat):LV:=.v (.int .u64 ((n:Nat):Int))
abbrev rn (n:Nat):LV:=.v (.int .u32 ((n:Nat):Int))
abbrev ai (n:Nat):LV:=.v (.int .i64 ((n:Nat):Int))
abbrev bL (b:Bool):LV:=.v (.bool b)
abbrev iL (n:Int):LV:=.v (.int .i64 n)
section
variable {a b:Nat}
theorem asK (h:a+b<18446744073709551616):dN .add .u64 (a:Nat) (b:Nat)=some (.int .u64 ((a+b:Nat):Int)):=by
 simp only [dN];rw [IntWalk.u64_in _ ae];simp
theorem acY (h:a*b<18446744073709551616):dN .mul .u64 (a:Nat) (b:Nat)=some (.int .u64 ((a*b:Nat):Int)):=by
 simp only [dN]
 have e:((a:Int)*(b:Int))=((a*b:Nat):Int):=by simp
 rw [e,IntWalk.u64_in _ ae]
theorem atm (h:b<=a) (h1:a<18446744073709551616):dN .sub .u64 (a:Nat) (b:Nat)=some (.int .u64 ((a-b:Nat):Int)):=by
 simp only [dN];rw [IntWalk.u64_in _ ae];congr 2;omega
theorem ae7 (h:b<=18446744073709551616):dN .sub .u64 (a:Nat) (b:Nat)=some (.int .u64 (((18446744073709551616+a-b) % 18446744073709551616:Nat):Int)):=by
 simp only [dN];rw [IntKind.wrap_u64];congr 2;omega
theorem ai6 (h:0<b) (h1:a<18446744073709551616):dN .quo .u64 (a:Nat) (b:Nat)=some (.int .u64 ((a/b:Nat):Int)):=by
 have e:((a:Int).tdiv (b:Int))=((a/b:Nat):Int):=by simp
 have h2:a/b<=a:=vF a b
 simp only [dN];rw [if_neg ae,e,IntWalk.u64_in _ ⟨Int.natCast_nonneg _,ae⟩]
theorem amk (h:0<b):dN .rem .u64 (a:Nat) (b:Nat)=some (.int .u64 ((a % b:Nat):Int)):=by
 simp only [dN];rw [if_neg ae];congr 2
theorem ae3 (h:a*4294967296<18446744073709551616):qo .shl .u64 (a:Nat) 32=some (.int .u64 ((a*4294967296:Nat):Int)):=by
 have e:(2:Int) ^ min (32:Int).toNat IntKind.u64.bits=4294967296:=by decide
 simp only [qo]
 rw [if_neg ae,e,IntWalk.u64_in _ ae];simp
theorem aI3:qo .shr .u64 (a:Nat) 32=some (.int .u64 ((a/4294967296:Nat):Int)):=by
 have e:(2:Int) ^ min (32:Int).toNat IntKind.u64.bits=4294967296:=by decide
 simp only [qo]
 rw [if_neg ae,e,akF _ ae]
 congr 2
theorem aG4:qo .shr .u64 (a:Nat) 63=some (.int .u64 ((a/9223372036854775808:Nat):Int)):=by
 have e:(2:Int) ^ min (63:Int).toNat IntKind.u64.bits=9223372036854775808:=by decide
 simp only [qo]
 rw [if_neg ae,e,akF _ ae]
 congr 2
theorem aa2 (n w:Nat):(uq w (n:Int))=BitVec.ofNat w n:=by simp
theorem orU {x:Nat} (hb:b<4294967296) (hx:x<4294967296):dN .or .u64 ((x*4294967296:Nat):Int) (b:Nat)=some (.int .u64 ((x*4294967296+b:Nat):Int)):=by
 have e:(uq IntKind.u64.bits ((x*4294967296:Nat):Int) ||| uq IntKind.u64.bits (b:Int)).toNat=x*4294967296+b:=by
  rw [aa2,aa2,al6,aaY,aaY]
  have e1:x*4294967296 % 2 ^ IntKind.u64.bits=x*4294967296:=iW (by show _<18446744073709551616;omega)
  have e2:b % 2 ^ IntKind.u64.bits=b:=iW (by show _<18446744073709551616;omega)
  rw [e1,e2]
  have:=alj (i:=32) (b:=b) (by simpa using hb) x
  rw [alI] at this
  exact this.symm
 simp only [dN,e]
 rw [IntWalk.u64_in _ ae]
theorem wrap32:IntKind.u32.wrap (a:Nat)=((a % 4294967296:Nat):Int):=by rw [IntKind.wrap_u32];omega
theorem wrap64 (h:a<18446744073709551616):IntKind.u64.wrap (a:Nat)=(a:Int):=IntWalk.u64_in _ ae
theorem vI {x y:Nat} (hx:x<4294967296) (hy:y<4294967296):x*y<=18446744065119617025:=by
 have:=mM (auY hx) (auY hy)
 simpa using this
end
section
variable {P:Program} {H:bW} {ρ:Operand->LV} {S D:TypeId} {x:Operand} {n:Nat} {k':IntKind}
theorem aF.azr {α:Type} {e:α->LV} {sz:Nat} {l:List α} {T:TypeId} {d:TypeId} {as:Array TypeId} (hx:ρ x=.list sz (l.map e)) (has:as=#[T]) (hT:P.underlying T=some (.slice d)) :
  aF P H ρ (.call ⟨.builtin .len,#[x],as⟩) (ai l.length):=by
 have:=aF.aaj (H:=H) hx has hT
 rwa [List.length_map] at this
theorem aF.azh {d:TypeDesc} (hS:P.underlying S=some d) (hD:P.underlying D=some (.int .u32)) (hx:ρ x=.v (.int k' (n:Nat))):aF P H ρ (.convert S D x) (rn (n % 4294967296)):=by
 have:=aF.conv (H:=H) hS hD hx
 rwa [wrap32] at this
theorem aF.ajl {d:TypeDesc} (hS:P.underlying S=some d) (hD:P.underlying D=some (.int .u64)) (hx:ρ x=.v (.int k' (n:Nat))) (h:n<18446744073709551616):aF P H ρ (.convert S D x) (cS n):=by
 have:=aF.conv (H:=H) hS hD hx
 rwa [wrap64 h] at this
theorem aF.cvI {d:TypeDesc} {m:Int} (hS:P.underlying S=some d) (hD:P.underlying D=some (.int .i64)) (hx:ρ x=.v (.int k' m)) (h1:-9223372036854775808<=m) (h2:m<=9223372036854775807):aF P H ρ (.convert S D x) (iL m):=by
 have:=aF.conv (H:=H) hS hD hx
 rwa [IntWalk.i64_in _ ⟨h1,h2⟩] at this
end
section
variable {P:Program} {Q:ku->St->Prop} {L L0:St} {K:St->Prop} {dr:Bool} {ops:Array Oper} {l:List Oper}
theorem aI1 {d:Nat} {b:Bool} (h:L.slot d=.v (.bool b)) (ht:b=true->opsL P dr ops l L K) (hf:b=false->opsL P dr ops l L K):opsL P dr ops l L K:=by
 cases b with
 | true=>exact ht rfl
 | false=>exact hf rfl
theorem cu {c:Operand} {x y:Code} {b:Bool} (hc:L.ev c=.v (.bool b)) (hb:b=true) (h:cP P x Q L):cP P (.cond c x y) Q L:=aly hc (fun _=>h) (fun e=>by rw [hb] at e;cases e)
theorem ff {c:Operand} {x y:Code} {b:Bool} (hc:L.ev c=.v (.bool b)) (hb:b=false) (h:cP P y Q L):cP P (.cond c x y) Q L:=aly hc (fun e=>by rw [hb] at e;cases e) (fun _=>h)
end
theorem az.own {L:St} {t:Nat} (d sz:Nat) (h:L.slot t=.v (.slice none 0 0)) (hd:L.heap d=none):az L ((L.bO d (some ⟨sz,[],true⟩)).put (some t) (.ref d sz 0 0)):=by
 rintro n W X Z0 a w ⟨ey,bI,μ,Z,hc,hr⟩
 refine⟨ey,bI,μ,Z,?_,fun s=>?_⟩
 ·rw [mb]
  refine hc.aiO fun c id yx=>?_
  have:c≠d:=by rintro rfl;rw [u4 hc hd] at yx;cases yx
  simp [St.bO,this]
 ·rw [iz]
  split
  ·rename_i dj
   subst dj
   have e:=hr s
   rw [h] at e
   rw [e.eI]
   exact⟨by simp [LV.isAgg],fun _=>by simp [aB]⟩
  ·exact hr s
theorem az.any (L:St) (t:Nat):az L (L.put (some t) .any):=by
 rintro n W X Z0 a w ⟨ey,bI,μ,Z,hc,hr⟩
 refine⟨ey,bI,μ,Z,by rw [mb];exact hc,fun s=>?_⟩
 rw [iz]
 split
 ·trivial
 ·exact hr s
def hp:List (Nat × bg)->bW
 | [],_=>none
 | (b,x) :: l,c=>bif oJ c b then some x else hp l c
def ins (b:Nat) (x:bg):List (Nat × bg)->List (Nat × bg)
 | []=>[(b,x)]
 | (c,y) :: l=>bif oJ c b then(b,x) :: l else(c,y) :: ins b x l
def pH (b:Nat):List (Nat × bg)->List (Nat × bg)
 | []=>[]
 | (c,y) :: l=>bif oJ c b then pH b l else(c,⟨y.sz,bX b y.vals,y.mt⟩) :: pH b l
def yP (bs:List Nat):List (Nat × bg)->List (Nat × bg)
 | []=>[]
 | (c,y) :: l=>(c,⟨y.sz,y.vals,y.mt && !bs.contains c⟩) :: yP bs l
theorem beq_eq {a b:Nat} (h:oJ a b=true):a=b:=Nat.eq_of_beq_eq_true h
theorem vH (a:Nat):oJ a a=true:=by rw [yD]
theorem qR {a b:Nat} (h:a≠b):oJ a b=false:=by rw [<-aaG,yD];exact h
theorem atF (b:Nat) (x:bg):∀ (l:List (Nat × bg)) (c:Nat),hp (ins b x l) c=if c=b then some x else hp l c
 | [],c=>by
   simp only [ins,hp]
   by_cases h:c=b
   ·subst h;rw [vH];simp
   ·rw [qR h,if_neg h];rfl
 | (d,y) :: l,c=>by
   simp only [ins]
   by_cases xt:d=b
   ·subst xt
    rw [vH]
    simp only [cond_true,hp]
    by_cases h:c=d
    ·subst h;rw [vH];simp
    ·rw [qR h,if_neg h];rfl
   ·rw [qR xt]
    simp only [cond_false,hp,atF b x l c]
    by_cases h:c=d
    ·subst h;rw [vH];simp [xt]
    ·rw [qR h];rfl
theorem agM (b:Nat):∀ (l:List (Nat × bg)) (c:Nat),hp (pH b l) c=if c=b then none else(hp l c).map fun blk=>⟨blk.sz,bX b blk.vals,blk.mt⟩
 | [],c=>by simp [pH,hp]
 | (d,y) :: l,c=>by
   simp only [pH]
   by_cases xt:d=b
   ·subst xt
    rw [vH]
    simp only [cond_true,agM d l c,hp]
    by_cases h:c=d
    ·rw [if_pos h,if_pos h]
    ·rw [if_neg h,if_neg h,qR h];rfl
   ·rw [qR xt]
    simp only [cond_false,hp,agM b l c]
    by_cases h:c=d
    ·subst h;rw [vH];simp [xt]
    ·rw [qR h];rfl
theorem ayt (bs:List Nat):∀ (l:List (Nat × bg)) (c:Nat),hp (yP bs l) c=(hp l c).map fun blk=>⟨blk.sz,blk.vals,blk.mt && !bs.contains c⟩
 | [],c=>rfl
 | (d,y) :: l,c=>by
   simp only [yP,hp,ayt bs l c]
   by_cases h:c=d
   ·subst h;rw [vH];rfl
   ·rw [qR h];rfl
theorem b1 (s:Nat->LV) (l:List (Nat × bg)) (b:Nat) (x:bg):(St.mk s (hp l)).bO b (some x)=St.mk s (hp (ins b x l)):=by
 simp only [St.bO,St.mk.injEq,true_and];funext c;rw [atF]
theorem b2 (L:St) (t:Nat) (r:LV) (b:Nat) (x:Option bg):(L.put (some t) r).bO b x=(L.bO b x).put (some t) r:=rfl
theorem b3 (s:Nat->LV) (l:List (Nat × bg)) (b:Nat):(St.mk s (hp l)).kill b=St.mk (fun t=>(s t).kill b) (hp (pH b l)):=by
 simp only [St.kill,St.mk.injEq,true_and];funext c;rw [agM]
theorem b4 (L:St) (t:Nat) (r:LV) (b:Nat):(L.put (some t) r).kill b=(L.kill b).put (some t) (r.kill b):=by
 simp only [St.kill,St.put,St.mk.injEq,and_true]
 funext s
 cases oJ s t<;>rfl
theorem b5 (s:Nat->LV) (l:List (Nat × bg)) (bs:List Nat):(St.mk s (hp l)).cd bs=St.mk s (hp (yP bs l)):=by
 simp only [St.cd,St.mk.injEq,true_and];funext c;rw [ayt]
theorem b6 (L:St) (t:Nat) (r:LV) (bs:List Nat):(L.put (some t) r).cd bs=(L.cd bs).put (some t) r:=rfl
theorem i1 (b:Nat) (x:bg):ins b x []=[(b,x)]:=rfl
theorem i2 (b c:Nat) (x y:bg) (l:List (Nat × bg)) (h:(c==b)=true):ins b x ((c,y) :: l)=(b,x) :: l:=by
 simp only [beq_iff_eq] at h;simp only [ins,h,vH,cond_true]
theorem i3 (b c:Nat) (x y:bg) (l:List (Nat × bg)) (h:(c==b)=false):ins b x ((c,y) :: l)=(c,y) :: ins b x l:=by
 have h':c≠b:=by simpa using h
 simp only [ins,qR h',cond_false]
theorem i4 (b:Nat):pH b []=[]:=rfl
theorem i5 (b c:Nat) (y:bg) (l:List (Nat × bg)) (h:(c==b)=true):pH b ((c,y) :: l)=pH b l:=by
 simp only [beq_iff_eq] at h;simp only [pH,h,vH,cond_true]
theorem i6 (b c:Nat) (y:bg) (l:List (Nat × bg)) (h:(c==b)=false):pH b ((c,y) :: l)=(c,⟨y.sz,bX b y.vals,y.mt⟩) :: pH b l:=by
 have h':c≠b:=by simpa using h
 simp only [pH,qR h',cond_false]
theorem bK {L:St} {l:List (Nat × bg)} (h:L.heap=hp l):St.mk L.slot (hp l)=L:=by rw [<-h]
def uA (b:Nat):List (Nat × bg)->List (Nat × bg)
 | []=>[]
 | (c,y) :: l=>bif oJ c b then uA b l else(c,y) :: uA b l
theorem anB (b:Nat):∀ (l:List (Nat × bg)) (c:Nat),hp (uA b l) c=if c=b then none else hp l c
 | [],c=>by simp [uA,hp]
 | (d,y) :: l,c=>by
   simp only [uA]
   by_cases xt:d=b
   ·subst xt
    rw [vH]
    simp only [cond_true,anB d l c,hp]
    by_cases h:c=d
    ·rw [if_pos h,if_pos h]
    ·rw [if_neg h,if_neg h,qR h];rfl
   ·rw [qR xt]
    simp only [cond_false,hp,anB b l c]
    by_cases h:c=d
    ·subst h;rw [vH];simp [xt]
    ·rw [qR h];rfl
theorem bh7 (s:Nat->LV) (l:List (Nat × bg)) (b:Nat):(St.mk s (hp l)).bO b none=St.mk s (hp (uA b l)):=by
 show St.mk s _=_
 congr 1;funext c
 exact(anB b l c).symm
theorem dh1 (b:Nat):uA b []=[]:=rfl
theorem dh2 (b c:Nat) (y:bg) (l:List (Nat × bg)) (h:(c==b)=true):uA b ((c,y) :: l)=uA b l:=by
 have:c=b:=by simpa using h
 subst this;simp only [uA,vH,cond_true]
theorem dh3 (b c:Nat) (y:bg) (l:List (Nat × bg)) (h:(c==b)=false):uA b ((c,y) :: l)=(c,y) :: uA b l:=by
 have:c≠b:=by simpa using h
 simp only [uA,qR this,cond_false]
def ax (P:Program) (f:FuncId) (args:List LV) (r:LV):Prop:=pW P f args r []/\∀ g,r.bV g=r
section
variable {P:Program} {dr:Bool} {ops:Array Oper} {rest:List Oper} {L:St} {K:St->Prop} {dst:Option Tmp} {ty:TypeId} {pos:String} {af:Array Edge} {g:Option (Nat × Bool)}
theorem fG {f:FuncId} {xs:Array Operand} {as:Array TypeId} {args:List LV} {r:LV} (hg:ef ops L ⟨dst,.call ⟨.value (.func f),xs,as⟩,ty,pos,af,g⟩ true)
  (ha:fY L.heap (xs.toList.map L.ev) args) (hk:ax P f args r) (k:opsL P dr ops rest (L.put dst r) K) :
  opsL P dr ops (⟨dst,.call ⟨.value (.func f),xs,as⟩,ty,pos,af,g⟩ :: rest) L K:=aBB hg ha hk.1 (hk.2 _) k
theorem aid {f:FuncId} {xs:Array Operand} {as:Array TypeId} {args:List LV} {r:LV} (bs:List Nat) (hg:ef ops L ⟨dst,.call ⟨.value (.func f),xs,as⟩,ty,pos,af,g⟩ true) (h0:bs.contains 0=false)
  (ha:fY (L.cd bs).heap (xs.toList.map L.ev) args) (hk:ax P f args r) (k:opsL P dr ops rest ((L.cd bs).put dst r) K) :
  opsL P dr ops (⟨dst,.call ⟨.value (.func f),xs,as⟩,ty,pos,af,g⟩ :: rest) L K:=atY bs hg h0 ha hk.1 (hk.2 _) k
theorem aI8 {f:FuncId} {fn:Func} {c:Code} {args:List LV} {r:LV} (iY:P.follows .mixedOrders=true) (hf:P.funcs[f]?=some fn) (hb:fn.body=some c)
  (hn:(fn.name== "runtime.NumGoroutine")=false) (hd:lV fn.ntmps c=true) (hlen:args.length<=fn.ntmps) (ht:∀ g,r.bV g=r)
  (h:cP P c (fun e L=>match e with | .exit _=>False | _=>qc P fn.results.toList L r []) (St.mk (fun t=>args.getD t .any) (hp []))):ax P f args r:=⟨ay6 iY hf hb hn hd hlen h,ht⟩
end
theorem aDb {P:Program} {f:FuncId} {fn:Func} {c:Code} {args:List LV} {r:LV} {bs:List bg} (iY:P.follows .mixedOrders=true) (hf:P.funcs[f]?=some fn) (hb:fn.body=some c)
  (hn:(fn.name== "runtime.NumGoroutine")=false) (hd:lV fn.ntmps c=true) (hlen:args.length<=fn.ntmps)
  (h:cP P c (fun e L=>match e with | .exit _=>False | _=>qc P fn.results.toList L r bs) (St.mk (fun t=>args.getD t .any) (hp []))):pW P f args r bs:=ay6 iY hf hb hn hd hlen h
theorem aB5 {P:Program} {f:FuncId} {fn:Func} {c:Code} {args:List LV} {r:LV} {blk blk':bg} (iY:P.follows .mixedOrders=true) (hf:P.funcs[f]?=some fn) (hb:fn.body=some c)
  (hn:(fn.name== "runtime.NumGoroutine")=false) (hd:lV fn.ntmps c=true) (hlen:args.length<=fn.ntmps) (fQ:blk.mt=true)
  (h:cP P c (fun e L=>match e with | .exit _=>False | _=>zi P fn.results.toList L r blk') (St.mk (fun t=>args.getD t .any) (hp [(0,blk)]))):nO P f blk args r blk':=by
 refine aGh iY hf hb hn hd hlen fQ ?_
 have:StM args blk=St.mk (fun t=>args.getD t .any) (hp [(0,blk)]):=by
  simp only [StM,St.mk.injEq,true_and]
  funext c
  simp only [hp]
  by_cases hc:c=0
  ·subst hc;rfl
  ·rw [qR hc,if_neg hc];rfl
 rw [this];exact h
theorem ac4 {x:LV} (h:x.pure=true):∀ g,x.bV g=x:=fun g=>LV.di g x h
theorem kL {x y:LV} (h:x.pure=true) (h':y.pure=true):∀ g,(LV.bf [x,y]).bV g=.bf [x,y]:=fun g=>by
 simp only [LV.bV,dA,LV.di g x h,LV.di g y h']
theorem aii {x y z:LV} (h:x.pure=true) (h':y.pure=true) (h'':z.pure=true):∀ g,(LV.bf [x,y,z]).bV g=.bf [x,y,z]:=fun g=>by
 simp only [LV.bV,dA,LV.di g x h,LV.di g y h',LV.di g z h'']
theorem zG (l:List Nat):(fj l).pure=true:=fc gv 1 l
theorem t1 (n:Nat):((n:Nat):Int).toNat=n:=rfl
theorem t2 (k:IntKind) (n:Nat):bw n=.v (.int .u32 (n:Nat)):=rfl
theorem ax9 {L:St} {α:Type} {e:α->LV} {ag:Bool} {bs:List Nat} {b sz len:Nat} {l:List α} {m:Bool} (he:iZ e sz ag) (hb:L.heap b=some ⟨sz,l.map e,m⟩) (sB:bs.contains b=true) (hl:len<=l.length) :
  cY (L.cd bs).heap (.ref b sz 0 len) (.list sz ((l.take len).map e)):=by
 have:=afP (L:=L) (bs:=bs) (off:=0) (len:=len) hb sB (a7 he l) (by simp [hl])
 rwa [mn,<-xR] at this
theorem we {P:Program} {L:St} {t:Nat} {x y:LV} {blk:bg} (h:L.slot t=x) (hi:xg L.heap 0 x y) (hb:L.heap 0=some blk) (hm:blk.mt=true) (hp:aN blk.vals=true):zi P [.tmp t] L y blk :=
 ⟨[x],[y],L.heap,.cons h .nil,bW.le_refl _,.cons hi .nil,hb,hm,hp,rfl⟩
theorem aE1 {P:Program} {L:St} {blk:bg} (hb:L.heap 0=some blk) (hm:blk.mt=true) (hp:aN blk.vals=true):zi P [] L (.bf []) blk :=
 ⟨[],[],L.heap,.nil,bW.le_refl _,.nil,hb,hm,hp,rfl⟩
theorem r1 (f:Nat->Nat) (b sz off len:Nat):(LV.ref b sz off len).bV f=.ref (f b) sz off len:=rfl
theorem r2 (f:Nat->Nat) (b sz i o:Nat):(LV.aD b sz i o).bV f=.aD (f b) sz i o:=rfl
theorem r3 (f:Nat->Nat) (x:Value):(LV.v x).bV f=.v x:=rfl
theorem r4 (d k:Nat):eE d k=1000000+d*16+k:=rfl
section
variable {P:Program} {H:bW} {ρ:Operand->LV} {T E:TypeId} {x z:Operand} {b sz off len h:Nat} {k':IntKind} {ag:Bool}
theorem aF.aiq (hx:ρ x=.ref b sz off len) (hT:P.underlying T=some (.slice E)) (hE:bE P E sz ag) (iT:ρ z=.v (.int k' (h:Nat))) (h2:h<=len) (h0:0<len) :
  aF P H ρ (.slice T x none (some z) none) (.ref b sz off h):=by
 have:=aF.wS (P:=P) (H:=H) (ρ:=ρ) (la:=none) (ha:=some z) (a:=0) (h:=h) hx hT hE (fun w hw=>by cases hw) (fun _=>rfl) (fun w hw=>by cases hw;exact⟨_,iT⟩) (fun h=>by cases h) ae h2 h0
 simpa using this
end
end Go.Lg
namespace Go.Lg
theorem gk:(default:Nat)=0:=rfl
theorem qz (l:List Nat) (k:Nat):val (l.take (k+1))=val (l.take k)+4294967296 ^ k*l.getD k 0:=by
 by_cases h:k<l.length
 ·exact at9 h
 ·have h1:l.take (k+1)=l:=dg ae
  have h2:l.take k=l:=dg ae
  have h3:l.getD k 0=0:=by rw [bp,yj ae];rfl
  rw [h1,h2,h3];simp
theorem adt (l:List Nat) {k:Nat} (h:l.length<=k):val (l.take k)=val l:=by rw [dg h]
theorem aG5 (l:List Nat) (k j x:Nat) (h:k<=j):(l.set j x).take k=l.take k:=by rw [List.take_set_of_le h]
theorem abz (l:List Nat) (k x:Nat) (h:k<l.length):val ((l.set k x).take (k+1))=val (l.take k)+4294967296 ^ k*x:=by
 rw [qz,aG5 _ _ _ _ (bq k),bp,aug h];rfl
theorem nB {l:List Nat} (h:bY l) (k x:Nat) (hx:x<4294967296):bY (l.set k x):=fun y hy=>by
 rcases List.mem_or_eq_of_mem_set hy with hy | rfl
 ·exact h y hy
 ·exact hx
theorem jo {l:List Nat} (h:bY l) (k:Nat):l.getD k 0<4294967296:=aIT h k
theorem asA (l:List Nat) (k x:Nat) (h:k<l.length):(l.set k x).getD k 0=x:=by
 rw [bp,aug h];rfl
theorem getD_set_ne (l:List Nat) (k j x:Nat) (h:k≠j):(l.set k x).getD j 0=l.getD j 0:=by
 rw [bp,bp,List.getElem?_set_ne h]
theorem vq (l:List Nat) (k:Nat) (h:l.length<=k):l.getD k 0=0:=by
 rw [bp,yj h];rfl
theorem acs (p s:Nat):p*(s % 4294967296)+p*4294967296*(s/4294967296)=p*s:=by
 rw [fM,<-eJ,Nat.mod_add_div]
theorem jc (n k:Nat):(ao n).getD k 0<4294967296:=jo (cT n) k
theorem oT {m n:Nat} (h:m<=n):(ao m).length<=(ao n).length:=by
 apply yc
 have:=acI (cT n);rw [cq] at this;omega
theorem uI {l:List Nat} (h:bY l) {k:Nat} (hk:l.length<=k):val l<4294967296 ^ k :=
 yU (acI h) (mh ae hk)
theorem aje:ao 1=[1]:=rfl
theorem ady {n:Nat} (h0:0<n) (h:n<4294967296):ao n=[n]:=by
 rw [abt h0,iW h,abn h];rfl
theorem uJ {n:Nat}:(ao n).length<=1↔n<4294967296:=aqT
theorem aas {n:Nat}:(ao n).length<=2↔n<18446744073709551616:=by
 rw [aqT]
theorem val_two (x y:Nat):val [x,y]=x+4294967296*y:=by simp [val]
theorem afK {l:List Nat} (h:Can l) (aX:0<l.length):l.getD (l.length-1) 0≠0:=by
 have h1:l≠[]:=by rintro rfl;simp at aX
 have:=h h1
 rw [apw] at this
 rw [bp,b7 ae]
 exact this
end Go.Lg
namespace Go.Lg
theorem p9 {l:List Nat} {k:Nat} (h:k<l.length):val (l.drop k)=l.getD k 0+4294967296*val (l.drop (k+1)):=by
 rw [aaC h,val,bp,b7 h];rfl
theorem atq {l:List Nat} {k x:Nat} (h:k<l.length):val ((l.set k x).drop k)=x+4294967296*val (l.drop (k+1)):=by
 rw [p9 nH,asA _ _ _ h,List.drop_set_of_lt ae]
theorem apj {l:List Nat} (h:bY l) {k j:Nat} (hk:l.length<=k+j):val (l.drop k)<4294967296 ^ j :=
 uI (aC2 h k) bz
theorem ad7 {l:List Nat} {k x:Nat} (h:k<l.length):val (l.set k x)+4294967296 ^ k*l.getD k 0=val l+4294967296 ^ k*x:=by
 induction l generalizing k with
 | nil=>simp at h
 | cons a l ih =>
  cases k with
  | zero=>simp [val];omega
  | succ k =>
   have:=ih (k:=k) nH
   simp only [List.set_cons_succ,val,List.getD_cons_succ,jt]
   have e1:4294967296 ^ k*4294967296*l.getD k 0=4294967296*(4294967296 ^ k*l.getD k 0):=by rw [fA (4294967296 ^ k),fM]
   have e2:4294967296 ^ k*4294967296*x=4294967296*(4294967296 ^ k*x):=by rw [fA (4294967296 ^ k),fM]
   rw [e1,e2];omega
theorem uw (l:List Nat) (k:Nat) (h:k<=l.length):val l=val (l.take k)+4294967296 ^ k*val (l.drop k):=by
 have:=aez (l.take k) (l.drop k)
 rwa [List.take_append_drop,eP,mf h] at this
def kt (m n:Nat):Int:=if m<n then -1 else if n<m then 1 else 0
theorem rI {m n:Nat} (h:m<n):kt m n=-1:=by simp [kt,h]
theorem tZ {m n:Nat} (h:n<m):kt m n=1:=by simp [kt,h];omega
theorem uX {m n:Nat} (h:m=n):kt m n=0:=by simp [kt,h]
theorem ahi {m n:Nat} (h:(ao m).length<(ao n).length):m<n:=by
 have h1:=acI (cT m);rw [cq] at h1
 apply pY
 intro h2
 have:=oT (Nat.le_of_not_lt h2)
 omega
theorem ajh {a b:List Nat} (ha:bY a) {k:Nat} (hk:k<a.length) (nu:k<b.length) (hd:a.drop (k+1)=b.drop (k+1)) (h:a.getD k 0<b.getD k 0):val a<val b:=by
 rw [uw a k ae,uw b k ae,p9 hk,p9 nu,hd]
 have h1:val (a.take k)<4294967296 ^ k:=uI (x6 ha k) bz
 have h2:4294967296 ^ k*(a.getD k 0+1)<=4294967296 ^ k*b.getD k 0:=kv _ h
 rw [eJ,eJ]
 rw [eJ] at h2
 omega
theorem ari {a b:List Nat} {k:Nat} (hk:k<a.length) (nu:k<b.length) (hd:a.drop (k+1)=b.drop (k+1)) (h:a.getD k 0=b.getD k 0):a.drop k=b.drop k:=by
 rw [aaC hk,aaC nu,hd]
 rw [bp,b7 hk,bp,b7 nu] at h
 simp only [aag] at h
 rw [h]
theorem aAy {a b:List Nat} {k:Nat} (hk:k<a.length) (nu:k<b.length) (hd:a.take k=b.take k) (h:a.getD k 0=b.getD k 0):a.take (k+1)=b.take (k+1):=by
 rw [ab5 hk,ab5 nu,hd]
 rw [bp,b7 hk,bp,b7 nu] at h
 simp only [aag] at h
 rw [h]
theorem aqB {k c:Nat} {a b o:List Nat} (de:k<o.length) (hv:val (o.take k)+4294967296 ^ k*c=val (a.take k)+val (b.take k)) {s:Nat} (hs:s=c+a.getD k 0+b.getD k 0) :
  val ((o.set k (s % 4294967296)).take (k+1))+4294967296 ^ (k+1)*(s/4294967296)=val (a.take (k+1))+val (b.take (k+1)):=by
 rw [abz _ _ _ de,qz a,qz b,jt]
 have h1:=acs (4294967296 ^ k) s
 have h2:4294967296 ^ k*s=4294967296 ^ k*c+4294967296 ^ k*a.getD k 0+4294967296 ^ k*b.getD k 0:=by rw [hs,eJ,eJ]
 omega
theorem aAc {c:Nat} {a b o:List Nat} (hba:b.length<=a.length) (de:o.length=a.length+1) (cg:bY o) (hc:c<4294967296) (hv:val (o.take a.length)+4294967296 ^ a.length*c=val (a.take a.length)+val (b.take a.length)) :
  yo (o.set a.length c)=ao (val a+val b):=by
 rw [vY (nB cg _ _ hc)]
 congr 1
 have h1:=abz o a.length c ae
 rw [dg bz] at h1
 rw [adt a (bq _),adt b hba] at hv
 omega
theorem ass {k br:Nat} {a b o:List Nat} (de:k<o.length) (hv:val (o.take k)+val (b.take k)=val (a.take k)+4294967296 ^ k*br) {y:Nat} (hy:y=br+b.getD k 0) (h:y<=a.getD k 0) :
  val ((o.set k (a.getD k 0-y)).take (k+1))+val (b.take (k+1))=val (a.take (k+1))+4294967296 ^ (k+1)*0:=by
 rw [abz _ _ _ de,qz a,qz b]
 have h2:4294967296 ^ k*a.getD k 0=4294967296 ^ k*(a.getD k 0-y)+4294967296 ^ k*br+4294967296 ^ k*b.getD k 0:=by
  rw [<-eJ,<-eJ];congr 1;omega
 omega
theorem at2 {k br:Nat} {a b o:List Nat} (de:k<o.length) (hv:val (o.take k)+val (b.take k)=val (a.take k)+4294967296 ^ k*br) {y:Nat} (hy:y=br+b.getD k 0) (h:a.getD k 0<y) (hy2:y<=4294967296) :
  val ((o.set k (4294967296+a.getD k 0-y)).take (k+1))+val (b.take (k+1))=val (a.take (k+1))+4294967296 ^ (k+1)*1:=by
 rw [abz _ _ _ de,qz a,qz b,jt]
 have h2:4294967296 ^ k*4294967296+4294967296 ^ k*a.getD k 0=4294967296 ^ k*(4294967296+a.getD k 0-y)+4294967296 ^ k*br+4294967296 ^ k*b.getD k 0:=by
  rw [<-eJ,<-eJ,<-eJ];congr 1;omega
 omega
theorem asQ {br:Nat} {a b o:List Nat} (fV:bY a) (cg:bY o) (de:o.length=a.length) (tp:b.length<=a.length) (hle:val b<=val a)
  (hv:val (o.take a.length)+val (b.take a.length)=val (a.take a.length)+4294967296 ^ a.length*br):yo o=ao (val a-val b):=by
 rw [vY cg]
 congr 1
 rw [adt a (bq _),adt b tp,adt o ae] at hv
 have h1:=acI cg
 rw [de] at h1
 cases br with
 | zero=>omega
 | succ n =>
  rw [Nat.mul_succ] at hv
  omega
theorem awV {i j c x:Nat} {b o:List Nat} {v0:Nat} (de:i+j<o.length) (hv:val o+4294967296 ^ (i+j)*c=v0+4294967296 ^ i*(x*val (b.take j))) {s:Nat}
  (hs:s=c+(x*b.getD j 0+o.getD (i+j) 0)) :
  val (o.set (i+j) (s % 4294967296))+4294967296 ^ (i+(j+1))*(s/4294967296)=v0+4294967296 ^ i*(x*val (b.take (j+1))):=by
 have h1:=ad7 (x:=s % 4294967296) de
 have h2:=acs (4294967296 ^ (i+j)) s
 have h3:4294967296 ^ i*(x*val (b.take (j+1)))=4294967296 ^ i*(x*val (b.take j))+4294967296 ^ (i+j)*(x*b.getD j 0):=by
  rw [qz,eJ,eJ,mg]
  congr 1
  rw [ac5 x,fM]
 have h4:4294967296 ^ (i+j)*s=4294967296 ^ (i+j)*c+4294967296 ^ (i+j)*(x*b.getD j 0)+4294967296 ^ (i+j)*o.getD (i+j) 0:=by
  rw [hs,eJ,eJ];omega
 have h5:4294967296 ^ (i+(j+1))=4294967296 ^ (i+j)*4294967296:=by rw [<-Nat.add_assoc,jt]
 rw [h3,h5]
 omega
theorem aqV {i c x:Nat} {a b o:List Nat} {v0:Nat} (_hi:i<a.length) (de:i+b.length<o.length) (h0:o.getD (i+b.length) 0=0) (hx:x=a.getD i 0) (hv0:v0=val (a.take i)*val b)
  (hv:val o+4294967296 ^ (i+b.length)*c=v0+4294967296 ^ i*(x*val (b.take b.length))) :
  val (o.set (i+b.length) c)=val (a.take (i+1))*val b:=by
 have h1:=ad7 (x:=c) de
 rw [nT] at hv
 have h2:val (a.take (i+1))*val b=v0+4294967296 ^ i*(x*val b):=by
  rw [qz,iA,hv0,hx,fM]
 rw [h2]
 rw [h0] at h1
 omega
theorem aqg {k d r:Nat} {a q:List Nat} (hk:k<a.length) (hq:q.length=a.length) (hv:val (q.drop (k+1))*d+r=val (a.drop (k+1))) {s:Nat} (hs:s=r*4294967296+a.getD k 0) :
  val ((q.set k (s/d)).drop k)*d+s % d=val (a.drop k):=by
 rw [atq ae,p9 hk,<-hv,iA]
 have:=ac1 s d
 rw [fA (s/d)]
 rw [eJ,hs] at *
 have e:4294967296*val (q.drop (k+1))*d=4294967296*(val (q.drop (k+1))*d):=by rw [fM]
 rw [e]
 omega
theorem ape {d r x:Nat} (hr:r<d) (hx:x<4294967296):(r*4294967296+x)/d<4294967296:=by
 rw [ot ae]
 have:(r+1)*4294967296<=d*4294967296:=fU _ hr
 rw [fA 4294967296];omega
theorem arD {d r:Nat} {a q:List Nat} (hd:0<d) (hr:r<d) (hq:bY q) (hv:val (q.drop 0)*d+r=val (a.drop 0)):yo q=ao (val a/d)/\r=val a % d:=by
 rw [mn,mn] at hv
 rw [vY hq,<-hv]
 refine⟨?_,?_⟩
 ·congr 1
  rw [fA,axh hd,abn hr];rfl
 ·rw [fA,Nat.mul_add_mod,iW hr]
theorem aAQ {k c p:Nat} {a o:List Nat} (de:k<o.length) (hv:val (o.take k)+4294967296 ^ k*c=val (a.take k)*p) {s:Nat} (hs:s=a.getD k 0*p+c) :
  val ((o.set k (s % 4294967296)).take (k+1))+4294967296 ^ (k+1)*(s/4294967296)=val (a.take (k+1))*p:=by
 rw [abz _ _ _ de,qz a,jt,iA]
 have h1:=acs (4294967296 ^ k) s
 have h2:4294967296 ^ k*s=4294967296 ^ k*(a.getD k 0*p)+4294967296 ^ k*c:=by rw [hs,eJ]
 have h3:4294967296 ^ k*a.getD k 0*p=4294967296 ^ k*(a.getD k 0*p):=by rw [fM]
 omega
theorem aFI {c p:Nat} {a o:List Nat} (de:o.length=a.length+1) (hv:val (o.take a.length)+4294967296 ^ a.length*c=val (a.take a.length)*p):val (o.set a.length c)=val a*p:=by
 have h1:=abz o a.length c ae
 rw [dg bz] at h1
 rw [adt a (bq _)] at hv
 omega
def dJ (n:Nat):Nat:=if n=0 then 0 else n.log2+1
theorem xQ {n:Nat}:dJ n=0↔n=0:=by unfold dJ;split<;>simp_all
theorem wo {n k:Nat}:dJ n<=k↔n<2 ^ k:=by
 unfold dJ
 split
 ·rename_i h;subst h;simp [my]
 ·rename_i h
  rw [Nat.succ_le_iff,Nat.log2_lt h]
theorem ak0 {n k:Nat}:k<dJ n↔2 ^ k<=n:=by
 rw [<-Nat.not_le,wo,anb]
theorem aDM {n:Nat}:dJ n=1↔n=1:=by
 have h1:=wo (n:=n) (k:=1)
 have h0:=xQ (n:=n)
 simp only [Nat.pow_one] at h1
 omega
theorem aJm {n k:Nat} (h1:2 ^ k<=n) (h2:n<2 ^ (k+1)):dJ n=k+1:=by
 have a:=ak0.2 h1
 have b:=wo.2 h2
 omega
theorem ajm {n k:Nat} (h:2 ^ k<=n):dJ n=k+dJ (n/2 ^ k):=by
 have hp:0<2 ^ k:=my ae
 have h0:n/2 ^ k≠0:=by
  intro e
  rw [Nat.div_eq_zero_iff] at e
  omega
 have h1:0<dJ (n/2 ^ k):=by
  rcases ahR (dJ (n/2 ^ k)) with e | e
  ·exact absurd (xQ.1 e) h0
  ·exact e
 obtain⟨j,hj⟩:∃ j,dJ (n/2 ^ k)=j+1:=⟨_,(Nat.sub_add_cancel h1).symm⟩
 have h2:2 ^ j<=n/2 ^ k:=ak0.1 ae
 have h3:n/2 ^ k<2 ^ (j+1):=wo.1 ae
 rw [zq hp,<-mg] at h2
 rw [ot hp,<-mg] at h3
 rw [hj]
 have:=aJm (n:=n) (k:=k+j) (by rwa [qB k]) (by rwa [qB k,ala])
 omega
theorem aCA {l:List Nat} (hL:bY l) (h:Can l) (hl:0<l.length):dJ (val l)=32*(l.length-1)+dJ (l.getD (l.length-1) 0):=by
 have aX:=afK h hl
 have hp:0<4294967296 ^ (l.length-1):=my ae
 have hd:val (l.drop (l.length-1))=l.getD (l.length-1) 0:=by
  rw [p9 ae,show l.length-1+1=l.length by omega,List.drop_length];simp [val]
 have hs:=uw l (l.length-1) ae
 have ht:val (l.take (l.length-1))<4294967296 ^ (l.length-1):=uI (x6 hL _) aM
 rw [hd] at hs
 have apQ:(2:Nat) ^ (32*(l.length-1))=4294967296 ^ (l.length-1):=by rw [Nat.pow_mul]
 have kM:4294967296 ^ (l.length-1)*1<=4294967296 ^ (l.length-1)*l.getD (l.length-1) 0:=kv _ ae
 rw [ajm (k:=32*(l.length-1)) (by rw [apQ];omega),apQ]
 congr 2
 rw [hs,qB,axh hp,abn ht];rfl
end Go.Lg
namespace Go.Lg
section
variable {a b s x c:Nat}
theorem awc (hs:s<64) (h:a*2 ^ s<18446744073709551616):qo .shl .u64 (a:Nat) (s:Nat)=some (.int .u64 ((a*2 ^ s:Nat):Int)):=by
 have e:min ((s:Int)).toNat IntKind.u64.bits=s:=by show min s 64=s;omega
 have e2:(a:Int)*2 ^ s=((a*2 ^ s:Nat):Int):=by simp
 simp only [qo]
 rw [if_neg ae,e,e2,IntWalk.u64_in _ ae]
theorem aeL {k:IntKind} {m:Nat} (hm:m<=k.bits):qo .shr k (a:Nat) (m:Nat)=some (.int k ((a/2 ^ m:Nat):Int)):=by
 have e:min ((m:Int)).toNat k.bits=m:=by show min m k.bits=m;omega
 simp only [qo]
 rw [if_neg ae,e,akF _ (Int.pow_nonneg ae)]
 congr 2
theorem orV (hc:c<2 ^ s) (h:x*2 ^ s+c<18446744073709551616):dN .or .u64 (c:Nat) ((x*2 ^ s:Nat):Int)=some (.int .u64 ((x*2 ^ s+c:Nat):Int)):=by
 have e:(uq IntKind.u64.bits (c:Int) ||| uq IntKind.u64.bits ((x*2 ^ s:Nat):Int)).toNat=x*2 ^ s+c:=by
  rw [aa2,aa2,al6,aaY,aaY]
  have e1:x*2 ^ s % 2 ^ IntKind.u64.bits=x*2 ^ s:=iW (by show _<18446744073709551616;omega)
  have e2:c % 2 ^ IntKind.u64.bits=c:=iW (by show _<18446744073709551616;omega)
  rw [e1,e2,arP]
  have:=alj (i:=s) (b:=c) hc x
  rw [alI] at this
  exact this.symm
 simp only [dN,e]
 rw [IntWalk.u64_in _ ae]
theorem tbl {s:ByteArray} (h:(c9 256).all (fun n=>s[n]?==some (UInt8.ofNat (dJ n)))=true) {n:Nat} (hn:n<256):s[n]?=some (UInt8.ofNat (dJ n)):=by
 rw [pO] at h
 simpa using h n (by simpa using hn)
end
def je:Nat->Nat->List Nat
 | 0,_=>[]
 | k+1,m=>m % 4294967296 :: je k (m/4294967296)
theorem adz:∀ k m,(je k m).length=k
 | 0,_=>rfl
 | k+1,m=>by simp [je,adz k]
theorem aon:∀ k m,bY (je k m)
 | 0,_=>fun x h=>by simp [je] at h
 | k+1,m=>fun x h=>by
   simp only [je,fx] at h
   rcases h with rfl | h
   ·omega
   ·exact aon k _ x h
theorem ajz:∀ {o:List Nat} {k:Nat},bY o->o.length=k->o=je k (val o)
 | [],k,_,h=>by subst h;rfl
 | x :: xs,k,hl,h=>by
   subst h
   have hx:=hl x aM
   have ih:=ajz (o:=xs) (k:=xs.length) (fun y hy=>hl y (by simp [hy])) rfl
   simp only [rC,je,val]
   have e1:(x+4294967296*val xs) % 4294967296=x:=by omega
   have e2:(x+4294967296*val xs)/4294967296=val xs:=by omega
   rw [e1,e2,<-ih]
theorem anD:∀ {k m:Nat},m<4294967296 ^ k->val (je k m)=m
 | 0,m,h=>by simp at h;subst h;rfl
 | k+1,m,h=>by
   simp only [je,val]
   rw [anD (k:=k) (by rw [ot ae];rwa [jt] at h)]
   omega
section
variable {P:Program} {ρ:Operand->LV} {α:Type} {e:α->LV}
theorem dE.avN {T E:TypeId} {x y:Operand} {d sz:Nat} {ag:Bool} {z a b:α} (he:iZ e sz ag) (hT:P.underlying T=some (.slice E)) (hz:dp P E (e z)) (hE:bE P E sz ag) (hx:ρ x=e a) (hy:ρ y=e b) (dO:0<sz) (kT:sz<=1000) :
  dE P ρ d (.buildSlice T 2 #[(0,x),(1,y)]) (.ref d sz 0 2) ⟨sz,[a,b].map e,true⟩:=by
 have:=dE.lit (P:=P) (ρ:=ρ) (d:=d) (T:=T) (n:=2) (ps:=#[(0,x),(1,y)]) hT hz (by rw [he.isAgg];exact hE) (he.aw z) ae ae dO (by
  intro p hp
  simp only [fx,jy,or_false] at hp
  rcases hp with rfl | rfl
  ·refine⟨by simp,?_,by rw [hx];exact LV.fp (he.pure _),by rw [hx];exact LV.eW (he.pure _)⟩
   simp [lay,hx,he.aw,he.isAgg]
  ·refine⟨by simp,?_,by rw [hy];exact LV.fp (he.pure _),by rw [hy];exact LV.eW (he.pure _)⟩
   simp [lay,hy,he.aw,he.isAgg])
 simpa [kh,hx,hy,ay] using this
end
section
variable {P:Program} {n:Nat} {W w:World} {X:XS} {Z0:Nat->Prop} {L:St} {a:Act} {K:St->Prop} {Q:ku->St->Prop}
theorem aDH {s0 d1 d2 sz:Nat} {l:List LV} {T E ty ty' U:TypeId} {pos pos':String} {af af':Array Edge} (h0:L.slot s0=.list sz l) (hT:P.underlying T=some (.slice E))
  (hK:∀ b:Bool,(b=true->l=[])->Q .normal ((L.put (some d1) (.list sz l)).put (some d2) (.v (.bool b)))) :
  ∀ n W X Z0 a w,gi n W X Z0 L a w->lV n (.region 0 [Oper.mk (some d1) (.move (.tmp s0)) ty pos af none,Oper.mk (some d2) (.binOp .eql T (.tmp d1) (.const (.slice none 0 0)) U) ty' pos' af' none].toArray false)=true ->
   ∀ id,(Code.region id [Oper.mk (some d1) (.move (.tmp s0)) ty pos af none,Oper.mk (some d2) (.binOp .eql T (.tmp d1) (.const (.slice none 0 0)) U) ty' pos' af' none].toArray false).wp P (acV n W X Z0 Q) a w:=by
 intro n W X Z0 a w hs hd id
 simp only [lV,List.all_cons,List.all_nil,Bool.and_true,kI,decide_eq_true_eq] at hd
 refine wp_region_list ?_
 have h1:=acU (P:=P) (dr:=false) (ops:=[Oper.mk (some d1) (.move (.tmp s0)) ty pos af none,Oper.mk (some d2) (.binOp .eql T (.tmp d1) (.const (.slice none 0 0)) U) ty' pos' af' none].toArray)
  (o:=Oper.mk (some d1) (.move (.tmp s0)) ty pos af none) hs (L':=L.put (some d1) (.list sz l))
  (.val (r:=.list sz l) (fr:=[]) (H1:=L.heap) rfl (bW.le_refl _) (fun _ _ h=>by cases h) (.pure (by have:=aF.move (P:=P) (H:=L.heap) (ρ:=L.ev) (.tmp s0);rwa [show L.ev (.tmp s0)=LV.list sz l from h0] at this)) rfl)
  (fun t ht=>by cases ht;exact hd.1)
  (K:=wpList P [Oper.mk (some d1) (.move (.tmp s0)) ty pos af none,Oper.mk (some d2) (.binOp .eql T (.tmp d1) (.const (.slice none 0 0)) U) ty' pos' af' none].toArray (acV n W X Z0 Q)
   [Oper.mk (some d2) (.binOp .eql T (.tmp d1) (.const (.slice none 0 0)) U) ty' pos' af' none]) (Q:=acV n W X Z0 Q) (fun a' w' mJ=>?_)
 ·unfold wpList
  split
  ·rename_i h;rw [if_pos h] at h1;exact .inl h1
  ·rename_i h;rw [if_neg h] at h1;exact h1
 ·obtain⟨ey,bI,μ,Z,hc,hr⟩:=mJ
  have e1:=hr d1
  rw [iz,if_pos rfl] at e1
  have e2:=e1.2 rfl
  simp only [aB] at e2
  obtain⟨ad,len,cap,q1,q2,q3,q4,q5⟩:=e2
  simp only [fP,and_true] at q1
  have gW:a'.eval (.tmp d1)=.slice ad len cap:=q1
  have hw:Region.wanted (Oper.mk (some d2) (.binOp .eql T (.tmp d1) (.const (.slice none 0 0)) U) ty' pos' af' none) (yielded [Oper.mk (some d1) (.move (.tmp s0)) ty pos af none,Oper.mk (some d2) (.binOp .eql T (.tmp d1) (.const (.slice none 0 0)) U) ty' pos' af' none].toArray a'.tmps)=true:=rfl
  unfold wpList
  rw [if_pos hw]
  left
  have fw:(execOp a'.eval (Oper.mk (some d2) (.binOp .eql T (.tmp d1) (.const (.slice none 0 0)) U) ty' pos' af' none)).run P w'=.ok (.value (.bool ad.isNone)) w':=by
   have hv:a'.eval (.const (.slice none 0 0))=.slice none 0 0:=rfl
   simp only [execOp,gW,hv]
   simp [eqGuard,binOp,run_equal_slice_nil w' T E ad len cap hT]
  unfold Oper.wp
  rw [fw,Oper.upon_value]
  refine⟨_,hK ad.isNone ?_,by rw [put_defers];exact ey,by rw [r7];exact bI,μ,Z,by rw [mb];exact hc,r9 (fun t ht=>by cases ht;rw [bI];exact hd.2) hr bh.bool⟩
  intro hb
  rcases q4 with q4 | ⟨blk,off,c,T',fz,part,rest,g1,_⟩
  ·exact q4
  ·rw [g1] at hb;cases hb
end
section
variable {R V p vt v2 vl top u2 rl:Nat}
theorem aIv (hV:V=(vt*4294967296+v2)*p+vl) (hR:R=(top*4294967296+u2)*p+rl) (nE:rl<p) (w9:u2<4294967296) (uU:0<vt):R/V<=top/vt:=by
 rw [zq uU]
 have h1:R/V*V<=R:=Nat.div_mul_le_self R V
 have h2:R/V*(vt*4294967296*p)<=R/V*V:=kv _ (by rw [hV,iA];omega)
 have h3:R<(top+1)*4294967296*p:=by
  rw [hR]
  have:(top*4294967296+u2+1)*p<=(top+1)*4294967296*p:=fU _ ae
  rw [iA _ 1] at this;omega
 have h4:R/V*vt*(4294967296*p)<(top+1)*(4294967296*p):=by
  have e1:R/V*vt*(4294967296*p)=R/V*(vt*4294967296*p):=by simp only [fM]
  have e2:(top+1)*(4294967296*p)=(top+1)*4294967296*p:=by simp only [fM]
  rw [e1,e2];omega
 exact Nat.le_of_lt_succ (axn h4)
theorem aAt {x rest:Nat} (hV:V=(vt*4294967296+v2)*p+vl) (hR:R=(top*4294967296+u2)*p+rl) (nE:rl<p) (kD:0<V)
  (hx:x*vt+rest=top) (h:rest*4294967296+u2<x*v2):R/V<x:=by
 rw [ot kD]
 have h1:x*((vt*4294967296+v2)*p)<=x*V:=kv _ (by rw [hV];omega)
 have h2:top*4294967296+u2+1<=x*(vt*4294967296+v2):=by
  rw [<-hx,iA,eJ,fM];omega
 have h3:(top*4294967296+u2+1)*p<=x*(vt*4294967296+v2)*p:=fU _ h2
 rw [iA _ 1] at h3
 rw [fM] at h3
 omega
theorem ar9 {x rest:Nat} (hV:V=(vt*4294967296+v2)*p+vl) (hR:R=(top*4294967296+u2)*p+rl) (sN:vl<p) (uU:0<vt) (kD:0<V)
  (hx:x*vt+rest=top) (hxB:x<=4294967296) (h:x*v2<=rest*4294967296+u2):x<=R/V+1:=by
 cases x with
 | zero=>exact b8 _
 | succ y =>
  have:y<=R/V:=by
   rw [zq kD]
   have h1:(y+1)*(vt*4294967296+v2)<=top*4294967296+u2:=by
    rw [<-hx,eJ,iA _ rest,<-fM];omega
   have h2:(y+1)*(vt*4294967296+v2)*p<=(top*4294967296+u2)*p:=fU _ h1
   have h3:y*vl<=y*p:=kv _ (yB sN)
   have h4:y*p<=4294967296*p:=fU _ ae
   have h5:4294967296*p<=(vt*4294967296+v2)*p:=fU _ ae
   have h6:y*V=y*(vt*4294967296+v2)*p+y*vl:=by rw [hV,eJ,fM]
   have h7:(y+1)*(vt*4294967296+v2)*p=y*(vt*4294967296+v2)*p+(vt*4294967296+v2)*p:=by rw [iA,iA,aft]
   omega
  omega
theorem aJ0 {un u1:Nat} (hV:V=(vt*4294967296+v2)*p+vl) (hR:R=((un*4294967296+u1)*4294967296+u2)*p+rl) (sN:vl<p) (hv2:v2<4294967296) (hRV:R<V*4294967296):un<=vt:=by
 apply pY
 intro h
 have h1:(vt+1)*4294967296<=un*4294967296:=by omega
 have h2:(vt*4294967296+v2+1)*4294967296<=(un*4294967296+u1)*4294967296+u2:=by
  have:(vt*4294967296+v2+1)<=un*4294967296+u1:=by omega
  exact ba (fU 4294967296 this) (Nat.le_add_right _ _)
 have h3:(vt*4294967296+v2+1)*4294967296*p<=((un*4294967296+u1)*4294967296+u2)*p:=fU _ h2
 have h4:V<=(vt*4294967296+v2+1)*p:=by rw [hV,iA _ 1];omega
 have h5:V*4294967296<=(vt*4294967296+v2+1)*p*4294967296:=fU _ h4
 have h6:(vt*4294967296+v2+1)*p*4294967296=(vt*4294967296+v2+1)*4294967296*p:=by rw [ayB]
 omega
theorem ayb {x rest un u1:Nat} (hx:x*vt+rest=un*4294967296+u1) (hun:un<=vt) (hu1:u1<4294967296) (hv2:v2<4294967296) (hr:4294967296<=rest):x<4294967296/\x*v2<=rest*4294967296+u2:=by
 have hxl:x<4294967296:=by
  apply pY
  intro h
  have h1:4294967296*vt<=x*vt:=fU vt ae
  omega
 refine⟨hxl,?_⟩
 have h1:x*v2<=4294967296*4294967296:=mM (yB hxl) (yB hv2)
 have h2:4294967296*4294967296<=rest*4294967296:=fU _ hr
 omega
end
theorem aFu {l:List Nat} {k:Nat} (h:val l<4294967296 ^ k):∀ p,k<=p->l.getD p 0=0:=fun p hp=>by
 apply pY
 intro h0
 have bH:p<l.length:=by
  apply pY
  intro hh
  exact h0 (vq l p ae)
 have h1:=uw l p ae
 rw [p9 bH] at h1
 have h2:4294967296 ^ k<=4294967296 ^ p:=mh ae hp
 have h3:4294967296 ^ p*1<=4294967296 ^ p*(l.getD p 0+4294967296*val (l.drop (p+1))):=kv _ ae
 omega
theorem agr:∀ {l:List Nat},(∀ p,l.getD p 0=0)->val l=0
 | [],_=>rfl
 | x :: xs,h=>by
   have h0:x=0:=by simpa using h 0
   have:=agr (l:=xs) (fun p=>by simpa using h (p+1))
   simp [val,h0,this]
theorem afU (l:List Nat) (k p:Nat):(l.drop k).getD p 0=l.getD (k+p) 0:=by
 rw [bp,bp,tc]
theorem aGe {l:List Nat} {k:Nat} (hl:bY l) (h:∀ p,k<=p->l.getD p 0=0):val l<4294967296 ^ k:=by
 by_cases hk:k<=l.length
 ·rw [uw l k hk,agr (l:=l.drop k) (fun p=>by rw [afU];exact h _ ae),aap,mS]
  exact uI (x6 hl k) bz
 ·exact uI hl ae
theorem aCZ {l:List Nat} {k:Nat} (hk:k+2<l.length) (hz:∀ p,k+3<=p->l.getD p 0=0) :
  val l=((l.getD (k+2) 0*4294967296+l.getD (k+1) 0)*4294967296+l.getD k 0)*4294967296 ^ k+val (l.take k):=by
 have h3:val (l.drop (k+2+1))=0:=agr (fun p=>by rw [afU];exact hz _ ae)
 rw [uw l k ae,p9 ae,p9 (k:=k+1) ae,p9 (k:=k+1+1) ae,h3,fA (4294967296 ^ k),qB,show k+1+1=k+2 from rfl]
 congr 2
 omega
theorem aHS {l:List Nat} {k:Nat} (hk:k+2=l.length):val l=(l.getD (k+1) 0*4294967296+l.getD k 0)*4294967296 ^ k+val (l.take k):=by
 have h3:val (l.drop (k+1+1))=0:=by rw [kg ae];rfl
 rw [uw l k ae,p9 ae,p9 (k:=k+1) ae,h3,fA (4294967296 ^ k),qB]
 congr 2
 omega
theorem azQ {i j c br x:Nat} {v ul:List Nat} {v0:Nat} (mW:i+j<ul.length) (gV:bY ul) (oC:br<=1)
  (hv:val ul+4294967296 ^ j*(x*val (v.take i))=v0+4294967296 ^ (i+j)*(c+br)) {c1 d:Nat} (wT:c1=c+x*v.getD i 0)
  (hd:d=(18446744073709551616+(18446744073709551616+ul.getD (i+j) 0-c1 % 4294967296) % 18446744073709551616-br) % 18446744073709551616) :
  d/9223372036854775808<=1/\bY (ul.set (i+j) (d % 4294967296)) /\
   val (ul.set (i+j) (d % 4294967296))+4294967296 ^ j*(x*val (v.take (i+1)))=v0+4294967296 ^ (i+1+j)*(c1/4294967296+d/9223372036854775808):=by
 have hu:=jo gV (i+j)
 refine⟨ae,nB gV _ _ ae,?_⟩
 have h1:=ad7 (x:=d % 4294967296) mW
 have h2:d % 4294967296+c1 % 4294967296+br=ul.getD (i+j) 0+4294967296*(d/9223372036854775808):=by omega
 have h3:4294967296 ^ (i+j)*(d % 4294967296)+4294967296 ^ (i+j)*(c1 % 4294967296)+4294967296 ^ (i+j)*br=4294967296 ^ (i+j)*ul.getD (i+j) 0+4294967296 ^ (i+j)*4294967296*(d/9223372036854775808):=by
  rw [<-eJ,<-eJ,h2,eJ,fM]
 have h4:=acs (4294967296 ^ (i+j)) c1
 have h5:4294967296 ^ (i+j)*c1=4294967296 ^ (i+j)*c+4294967296 ^ j*(x*(4294967296 ^ i*v.getD i 0)):=by
  rw [wT,eJ,mg]
  congr 1
  simp only [fM,ac5,fA]
 have h6:4294967296 ^ (i+1+j)=4294967296 ^ (i+j)*4294967296:=by rw [ala,jt]
 rw [qz,eJ x,eJ,h6,eJ]
 rw [eJ] at hv
 omega
theorem apx {j n c br x t:Nat} {ul:List Nat} {V v0:Nat} (mW:n+j<ul.length) (gV:bY ul) (oC:br<=1) (hc:c<4294967296)
  (hv:val ul+4294967296 ^ j*(x*V)=v0+4294967296 ^ (n+j)*(c+br)) (ht:t=ul.getD (n+j) 0) {d:Nat}
  (hd:d=(18446744073709551616+(18446744073709551616+t-c) % 18446744073709551616-br) % 18446744073709551616) :
  bY (ul.set (n+j) (d % 4294967296))/\d/9223372036854775808<=1 /\
   val (ul.set (n+j) (d % 4294967296))+4294967296 ^ j*(x*V)=v0+4294967296 ^ (n+j+1)*(d/9223372036854775808):=by
 have hu:=jo gV (n+j)
 refine⟨nB gV _ _ ae,ae,?_⟩
 have h1:=ad7 (x:=d % 4294967296) mW
 have h2:d % 4294967296+c+br=t+4294967296*(d/9223372036854775808):=by omega
 have h3:4294967296 ^ (n+j)*(d % 4294967296)+4294967296 ^ (n+j)*c+4294967296 ^ (n+j)*br=4294967296 ^ (n+j)*t+4294967296 ^ (n+j)*4294967296*(d/9223372036854775808):=by
  rw [<-eJ,<-eJ,h2,eJ,fM]
 rw [jt]
 rw [eJ] at hv
 rw [<-ht] at h1
 omega
theorem azC {i j c:Nat} {v ul:List Nat} {v0:Nat} (mW:i+j<ul.length) (gV:bY ul) (hv:val ul+4294967296 ^ (i+j)*c=v0+4294967296 ^ j*val (v.take i)) {s:Nat} (hs:s=c+(ul.getD (i+j) 0+v.getD i 0)) :
  bY (ul.set (i+j) (s % 4294967296))/\val (ul.set (i+j) (s % 4294967296))+4294967296 ^ (i+1+j)*(s/4294967296)=v0+4294967296 ^ j*val (v.take (i+1)):=by
 refine⟨nB gV _ _ ae,?_⟩
 have h1:=ad7 (x:=s % 4294967296) mW
 have h2:=acs (4294967296 ^ (i+j)) s
 have h3:4294967296 ^ (i+j)*s=4294967296 ^ (i+j)*c+4294967296 ^ (i+j)*ul.getD (i+j) 0+4294967296 ^ j*(4294967296 ^ i*v.getD i 0):=by
  rw [hs,eJ,eJ,mg]
  simp only [fM,ac5,fA]
  omega
 have h6:4294967296 ^ (i+1+j)=4294967296 ^ (i+j)*4294967296:=by rw [ala,jt]
 rw [qz,eJ,h6]
 omega
end Go.Lg
namespace Go.Lg
theorem vd (k:Nat):0<4294967296 ^ k:=my ae
theorem aia {ul:List Nat} {V n j:Nat} (hVn:V<4294967296 ^ n) (bH:val ul<V*4294967296 ^ (j+1)):∀ p,n+j+1<=p->ul.getD p 0=0:=by
 apply aFu
 have h1:V*4294967296 ^ (j+1)<=4294967296 ^ n*4294967296 ^ (j+1):=fU _ (yB hVn)
 rw [<-mg] at h1
 exact yU bH h1
theorem amQ {ul:List Nat} {V n j:Nat} (hn:(ao V).length=n+2) (mW:n+2+j<ul.length) (gV:bY ul) (bH:val ul<V*4294967296 ^ (j+1)) :
  ∃ vl rl,vl<4294967296 ^ n/\rl<4294967296 ^ n/\V=((ao V).getD (n+1) 0*4294967296+(ao V).getD n 0)*4294967296 ^ n+vl /\
   val ul/4294967296 ^ j=((ul.getD (n+2+j) 0*4294967296+ul.getD (n+1+j) 0)*4294967296+ul.getD (n+j) 0)*4294967296 ^ n+rl /\
   val ul/4294967296 ^ j<V*4294967296:=by
 have hVn:V<4294967296 ^ (n+2):=vm ae
 have hz:=aia hVn bH
 have h1:=aHS (l:=ao V) (k:=n) ae
 have h2:=aCZ (l:=ul) (k:=n+j) ae (fun p hp=>hz p ae)
 rw [cq] at h1
 refine⟨val ((ao V).take n),val (ul.take (n+j))/4294967296 ^ j,uI (x6 (cT V) _) bz,?_,h1,?_,?_⟩
 ·rw [ot (vd j),<-mg]
  exact uI (x6 gV _) bz
 ·have e1:n+j+2=n+2+j:=by omega
  have e2:n+j+1=n+1+j:=by omega
  rw [e1,e2] at h2
  rw [h2,mg,<-fM,qB,Nat.add_mul_div_right _ _ (vd j),qB]
 ·rw [ot (vd j)]
  rw [jt] at bH
  have e:V*4294967296*4294967296 ^ j=V*(4294967296 ^ j*4294967296):=by rw [fM,fA 4294967296]
  rw [e];exact bH
section
variable {ul ul0:List Nat} {V n j x:Nat}
theorem aBw (h:val ul+4294967296 ^ j*(x*V)=val ul0) (hV:0<V):x<=val ul0/4294967296 ^ j/V:=by
 rw [zq hV,zq (vd j),fA _ (4294967296 ^ j)]
 omega
theorem aDJ (h:val ul+4294967296 ^ j*(x*V)=val ul0+4294967296 ^ (n+j+1)) (bH:val ul<4294967296 ^ (n+j+1)) (hV:0<V):val ul0/4294967296 ^ j/V<x:=by
 rw [ot hV,ot (vd j),fA _ (4294967296 ^ j)]
 omega
theorem aDR {ul3:List Nat} {c:Nat} (hx:0<x) (hxV:4294967296 ^ j*((x-1)*V)<=val ul0) (h:val ul+4294967296 ^ j*(x*V)=val ul0+4294967296 ^ (n+j+1)) (mW:n+j<ul3.length) (nS:bY ul3) (hz:∀ p,n+j+1<=p->ul3.getD p 0=0)
  (hc:c<=1) (h3:val ul3+4294967296 ^ (n+j)*c=val ul+4294967296 ^ j*V) {t:Nat} (ht:t=ul3.getD (n+j) 0) :
  bY (ul3.set (n+j) ((t+c) % 4294967296))/\val (ul3.set (n+j) ((t+c) % 4294967296))+4294967296 ^ j*((x-1)*V)=val ul0:=by
 have hs:=uw ul3 (n+j) ae
 rw [p9 mW,agr (l:=ul3.drop (n+j+1)) (fun p=>by rw [afU];exact hz _ ae),aap,mS,<-ht] at hs
 have abc:val (ul3.take (n+j))<4294967296 ^ (n+j):=uI (x6 nS _) bz
 have htl:=jo nS (n+j)
 rw [<-ht] at htl
 obtain⟨y,rfl⟩:∃ y,x=y+1:=⟨x-1,ae⟩
 rw [mi] at *
 have e1:4294967296 ^ j*((y+1)*V)=4294967296 ^ j*(y*V)+4294967296 ^ j*V:=by rw [iA,aft,eJ]
 rw [e1] at h
 have h4:val (ul3.take (n+j))+4294967296 ^ (n+j)*(t+c)=(val ul0-4294967296 ^ j*(y*V))+4294967296 ^ (n+j)*4294967296:=by
  rw [eJ,<-jt];omega
 have h5:4294967296<=t+c:=by
  apply pY
  intro hh
  have:4294967296 ^ (n+j)*(t+c+1)<=4294967296 ^ (n+j)*4294967296:=kv _ ae
  rw [eJ _ (t+c)] at this
  omega
 have h6:t+c=4294967296:=by omega
 rw [h6] at h4 ⊢
 refine⟨nB nS _ _ ae,?_⟩
 have h7:=ad7 (x:=4294967296 % 4294967296) mW
 rw [<-ht,aw8,aap,mS] at h7
 rw [aw8]
 omega
theorem arR {ql:List Nat} {U0:Nat} (hV:0<V) (hx:x=val ul0/4294967296 ^ j/V) (h:val ul+4294967296 ^ j*(x*V)=val ul0) (hj:j<ql.length)
  (hv:val ul0+V*4294967296 ^ (j+1)*val (ql.drop (j+1))=U0) :
  val ul+V*4294967296 ^ j*val ((ql.set j x).drop j)=U0/\val ul<V*4294967296 ^ j:=by
 constructor
 ·rw [atq hj,<-hv,<-h,eJ]
  have e1:V*4294967296 ^ j*x=4294967296 ^ j*(x*V):=by simp only [fM,ac5,fA]
  have e2:V*4294967296 ^ j*(4294967296*val (ql.drop (j+1)))=V*4294967296 ^ (j+1)*val (ql.drop (j+1)):=by
   rw [jt];simp only [fM]
  rw [e1,e2];omega
 ·have h1:val ul0/4294967296 ^ j<(x+1)*V:=by
   rw [<-ot hV,hx];omega
  rw [ot (vd j)] at h1
  have e:(x+1)*V*4294967296 ^ j=4294967296 ^ j*(x*V)+V*4294967296 ^ j:=by
   rw [iA,iA,aft,fA (x*V)]
  rw [e] at h1;omega
end
theorem aJS {s:Nat} (hs:s<32):2 ^ s<=2147483648:=mh (n:=2) ae (show s<=31 by omega)
theorem aKq {top:Nat} (h0:0<top) (h:top<4294967296):2147483648<=top*2 ^ (32-dJ top)/\top*2 ^ (32-dJ top)<4294967296:=by
 have h1:dJ top<=32:=wo.2 h
 have h2:1<=dJ top:=by
  rcases ahR (dJ top) with e | e
  ·exact absurd (xQ.1 e) ae
  ·exact e
 have h3:2 ^ (dJ top-1)<=top:=ak0.1 ae
 have h4:top<2 ^ dJ top:=wo.1 (bq _)
 constructor
 ·have:=fU (2 ^ (32-dJ top)) h3
  rw [<-mg,show dJ top-1+(32-dJ top)=31 by omega] at this
  exact this
 ·have:=akH h4 (my (n:=32-dJ top) (show 0<2 by omega))
  rw [<-mg,show dJ top+(32-dJ top)=32 by omega] at this
  exact this
theorem ate {Bv n s:Nat} (hn:(ao Bv).length=n+1) (hs:s=32-dJ ((ao Bv).getD n 0)):s<32/\(ao (Bv*2 ^ s)).length=n+1/\2147483648*4294967296 ^ n<=Bv*2 ^ s/\Bv*2 ^ s<4294967296 ^ (n+1):=by
 have aX:=afK (afB Bv) (by omega:0<(ao Bv).length)
 rw [hn,mi] at aX
 have acj:=jc Bv n
 obtain⟨h1,h2⟩:=aKq (vD aX) acj
 rw [<-hs] at h1 h2
 have hv:Bv=4294967296 ^ n*(ao Bv).getD n 0+val ((ao Bv).take n):=by
  have:=uw (ao Bv) n ae
  rw [p9 ae,show (ao Bv).drop (n+1)=[] from kg ae,cq] at this
  simp only [val,aap,mS] at this
  omega
 have abc:val ((ao Bv).take n)<4294967296 ^ n:=uI (x6 (cT Bv) _) bz
 have kM:2147483648*4294967296 ^ n<=Bv*2 ^ s:=by
  have:=kv (4294967296 ^ n) h1
  have e:4294967296 ^ n*((ao Bv).getD n 0*2 ^ s)<=Bv*2 ^ s:=by
   rw [<-fM];exact fU _ ae
  rw [fA] at this;omega
 have bH:Bv*2 ^ s<4294967296 ^ (n+1):=by
  have hp:0<2 ^ s:=my ae
  have e1:Bv<4294967296 ^ n*((ao Bv).getD n 0+1):=by rw [eJ];omega
  have e2:=akH e1 hp
  have e3:(ao Bv).getD n 0*2 ^ s+2 ^ s<=4294967296:=by
   have um:s<=32:=by omega
   have hd:4294967296=2 ^ (32-s)*2 ^ s:=by rw [<-mg,show 32-s+s=32 by omega]
   rw [hd] at h2 ⊢
   have:=axn h2
   have:=fU (2 ^ s) this
   rw [Nat.succ_mul] at this
   exact this
  rw [fM,iA,aft] at e2
  have e4:=kv (4294967296 ^ n) e3
  rw [jt];omega
 refine⟨?_,?_,kM,bH⟩
 ·rcases ahR (dJ ((ao Bv).getD n 0)) with e | e
  ·exact absurd (xQ.1 e) aX
  ·omega
 ·have h3:=yc bH
  have h4:n<(ao (Bv*2 ^ s)).length:=by
   apply pY
   intro hh
   have:=vm (n:=Bv*2 ^ s) (k:=n) ae
   have:=fU (4294967296 ^ n) (show 1<=2147483648 by omega)
   omega
  omega
theorem avp {V n:Nat} (hn:(ao V).length=n+1) (kM:2147483648*4294967296 ^ n<=V):2147483648<=(ao V).getD n 0:=by
 have hv:=uw (ao V) n ae
 rw [p9 ae,show (ao V).drop (n+1)=[] from kg ae,cq] at hv
 simp only [val,aap,mS] at hv
 have abc:val ((ao V).take n)<4294967296 ^ n:=uI (x6 (cT V) _) bz
 apply pY
 intro hh
 have:=kv (4294967296 ^ n) (show (ao V).getD n 0+1<=2147483648 by omega)
 rw [eJ,fA _ 2147483648] at this
 omega
theorem azE {A Bv s n m:Nat} (hs:s<32) (hm:(ao A).length=m) (kK:n+1<=m) (kM:2147483648*4294967296 ^ n<=Bv*2 ^ s):A*2 ^ s<Bv*2 ^ s*4294967296 ^ (m+1-(n+1))/\A*2 ^ s<4294967296 ^ (m+1):=by
 have hA:A<4294967296 ^ m:=vm ae
 have hp:=aJS hs
 have h1:A*2 ^ s<4294967296 ^ m*2147483648:=yU (akH hA (my ae)) (kv _ hp)
 constructor
 ·have h2:=fU (4294967296 ^ (m+1-(n+1))) kM
  rw [fM,<-mg,show n+(m+1-(n+1))=m by omega] at h2
  omega
 ·rw [jt];exact aow h1 (Nat.mul_lt_mul_of_pos_left ae (vd m))
theorem asL {A Bv s:Nat} {ul ql:List Nat} (hB:0<Bv) (h:val ul+Bv*2 ^ s*val ql=A*2 ^ s) (bH:val ul<Bv*2 ^ s):val ql=A/Bv/\val ul=A % Bv*2 ^ s:=by
 have hp:0<2 ^ s:=my ae
 have h1:val ul=A*2 ^ s % (Bv*2 ^ s):=by
  rw [<-h,Nat.add_mul_mod_self_left,iW bH]
 have h2:val ql=A*2 ^ s/(Bv*2 ^ s):=by
  rw [<-h,Nat.add_mul_div_left _ _ (by exact mG hB hp),abn bH,fF]
 rw [auu] at h1
 rw [Nat.mul_div_mul_right _ _ hp] at h2
 exact⟨h2,h1⟩
theorem aj5 {i s:Nat} {w o:List Nat} (hi:i<w.length) (hs:s<32) (hd:w.getD i 0=o.getD i 0) (hv:2 ^ s*val (w.take i)=val (o.take i)+4294967296 ^ i*(o.getD i 0 % 2 ^ s)) {y:Nat} (hy:y=o.getD i 0/2 ^ s+o.getD (i+1) 0 % 2 ^ s*2 ^ (32-s)) :
  2 ^ s*val ((w.set i y).take (i+1))=val (o.take (i+1))+4294967296 ^ (i+1)*(o.getD (i+1) 0 % 2 ^ s):=by
 rw [abz _ _ _ hi,qz o,eJ,hv,jt]
 have h1:=ac1 (o.getD i 0) (2 ^ s)
 have h2:2 ^ s*(o.getD (i+1) 0 % 2 ^ s*2 ^ (32-s))=4294967296*(o.getD (i+1) 0 % 2 ^ s):=by
  rw [ac5,<-mg,show s+(32-s)=32 by omega,fA]
 have h3:2 ^ s*(4294967296 ^ i*y)=4294967296 ^ i*(2 ^ s*(o.getD i 0/2 ^ s))+4294967296 ^ i*4294967296*(o.getD (i+1) 0 % 2 ^ s):=by
  rw [ac5,hy,eJ,h2,eJ,fM]
 have h4:4294967296 ^ i*o.getD i 0=4294967296 ^ i*(2 ^ s*(o.getD i 0/2 ^ s))+4294967296 ^ i*(o.getD i 0 % 2 ^ s):=by rw [<-eJ,h1]
 omega
section
variable {a b s x c:Nat}
theorem aFi:dN .and .u64 (a:Nat) 4294967295=some (.int .u64 ((a % 4294967296:Nat):Int)):=by
 have e:(uq IntKind.u64.bits (a:Int) &&& uq IntKind.u64.bits (4294967295:Int)).toNat=a % 4294967296:=by
  have h1:(4294967295:Int)=((4294967295:Nat):Int):=rfl
  rw [h1,aa2,aa2,BitVec.toNat_and,aaY,aaY]
  have h2:4294967295 % 2 ^ IntKind.u64.bits=2 ^ 32-1:=rfl
  rw [h2,Nat.and_two_pow_sub_one_eq_mod]
  show a % 18446744073709551616 % 4294967296=a % 4294967296
  omega
 simp only [dN,e]
 rw [IntWalk.u64_in _ ae]
theorem aGw:dN .add .u32 (a:Nat) (b:Nat)=some (.int .u32 (((a+b) % 4294967296:Nat):Int)):=by
 simp only [dN];rw [IntKind.wrap_u32];congr 2
theorem azo (hs:s<=32):qo .shl .u32 (a:Nat) ((s:Nat):Int)=some (.int .u32 ((a % 2 ^ (32-s)*2 ^ s:Nat):Int)):=by
 have e:min ((s:Int)).toNat IntKind.u32.bits=s:=by show min s 32=s;omega
 have e2:(a:Int)*2 ^ s=((a*2 ^ s:Nat):Int):=by simp
 simp only [qo]
 rw [if_neg ae,e,e2,wrap32]
 congr 3
 have:4294967296=2 ^ (32-s)*2 ^ s:=by rw [<-mg,show 32-s+s=32 by omega]
 rw [this,auu]
theorem aGR (hc:c<2 ^ s) (h:x*2 ^ s+c<4294967296):dN .or .u32 (c:Nat) ((x*2 ^ s:Nat):Int)=some (.int .u32 ((x*2 ^ s+c:Nat):Int)):=by
 have e:(uq IntKind.u32.bits (c:Int) ||| uq IntKind.u32.bits ((x*2 ^ s:Nat):Int)).toNat=x*2 ^ s+c:=by
  rw [aa2,aa2,al6,aaY,aaY]
  have e1:x*2 ^ s % 2 ^ IntKind.u32.bits=x*2 ^ s:=iW (by show _<4294967296;omega)
  have e2:c % 2 ^ IntKind.u32.bits=c:=iW (by show _<4294967296;omega)
  rw [e1,e2,arP]
  have:=alj (i:=s) (b:=c) hc x
  rw [alI] at this
  exact this.symm
 simp only [dN,e]
 rw [IntWalk.u32_in _ ae]
theorem anq {s y z:Nat} (hs:s<=32) (hy:y<4294967296):y/2 ^ s<2 ^ (32-s)/\z % 2 ^ s*2 ^ (32-s)+y/2 ^ s<4294967296:=by
 have hd:4294967296=2 ^ (32-s)*2 ^ s:=by rw [<-mg,show 32-s+s=32 by omega]
 have hp:0<2 ^ s:=my ae
 have h1:y/2 ^ s<2 ^ (32-s):=by rw [ot hp];omega
 refine⟨h1,?_⟩
 have h2:=Nat.mod_lt z hp
 have h3:(z % 2 ^ s+1)*2 ^ (32-s)<=2 ^ s*2 ^ (32-s):=fU _ h2
 rw [iA,aft,fA (2 ^ s)] at h3
 omega
end
theorem au2:∀ {l:List Nat},val l=0->∀ p,l.getD p 0=0
 | [],_,p=>by simp
 | x :: xs,h,p=>by
   simp only [val] at h
   have h1:x=0:=by omega
   have h2:val xs=0:=by omega
   cases p with
   | zero=>simpa using h1
   | succ p=>simpa using au2 h2 p
theorem aDj {l:List Nat} {n:Nat} (hn:n=l.length):∀ p,jA n l<=p->l.getD p 0=0:=fun p hp=>by
 subst hn
 have h1:=(aiZ l.length l (bq _)).2
 rw [nT] at h1
 have h2:=uw l (jA l.length l) (aln _ _)
 rw [h1] at h2
 have h3:val (l.drop (jA l.length l))=0:=by
  rcases ahR (val (l.drop (jA l.length l))) with e | e
  ·exact e
  ·have:=mG (vd (jA l.length l)) e;omega
 have h4:=au2 h3 (p-jA l.length l)
 rwa [afU,show jA l.length l+(p-jA l.length l)=p by omega] at h4
theorem aqP {l:List Nat} {r s:Nat} (hs:s<=32) (h:val l=r*2 ^ s):l.getD 0 0 % 2 ^ s=0:=by
 cases l with
 | nil=>simp
 | cons x xs =>
  simp only [val] at h
  have hd:4294967296=2 ^ (32-s)*2 ^ s:=by rw [<-mg,show 32-s+s=32 by omega]
  have h1:(x+4294967296*val xs) % 2 ^ s=0:=by rw [h,Nat.mul_mod_left]
  rw [hd,ayB,Nat.add_mul_mod_self_right] at h1
  simpa using h1
theorem t0:(0:Int).toNat=0:=rfl
theorem aCH {x:Nat} (h:x<4294967296):bY [x]:=fun y hy=>by simp at hy;omega
def ab1:List Nat->Code->Option Code
 | [],c=>some c
 | i :: p,.seq x y=>if i=0 then ab1 p x else ab1 p y
 | i :: p,.cond _ x y=>if i=0 then ab1 p x else ab1 p y
 | _ :: p,.block _ c=>ab1 p c
 | _ :: p,.loop c=>ab1 p c
 | _,_=>none
def abU (fn:Func) (p:List Nat):Option Code:=fn.body.bind (ab1 p)
section
variable {P:Program} {Q:ku->St->Prop} {L L':St}
theorem ae4 {fn:Func} {p:List Nat} {c:Code} (h:abU fn p=some c) (k:cP P c Q L):cP P ((abU fn p).getD .skip) Q L:=by rw [h];exact k
end
theorem afb {P:Program} {Q:ku->St->Prop} {L:St} {c:Code} {S:St->St} (h:S L=L) (k:cP P c Q (S L)):cP P c Q L:=by rw [<-h];exact k
theorem ack {Q:ku->St->Prop} {S L:St} (k:Q .normal S) (h:S=L):Q .normal L:=h ▸ k
end Go.Lg
namespace Go.Lg
theorem hce:(∀ (p:Prop) [Decidable p],(decide p=true)=p)/\(∀ (p:Prop) [Decidable p],(decide p=false)=¬ p)/\(∀ {α:Type} [BEq α] [LawfulBEq α] {a b:α},((a==b)=true)=(a=b))
  /\ (∀ {α:Type} [BEq α] [LawfulBEq α] {a b:α},((a==b)=false)=¬ (a=b))/\(∀ {α:Type} [BEq α] [LawfulBEq α] {a b:α},((a != b)=true)=¬ (a=b))/\(∀ {α:Type} [BEq α] [LawfulBEq α] {a b:α},((a != b)=false)=(a=b))
  /\ (∀ (b:Bool),(¬ (b=true))=(b=false))/\(∀ (b:Bool),((!b)=true)=(b=false))/\(∀ (b:Bool),((!b)=false)=(b=true))/\(∀ (a b:Bool),(a=!b)=¬ (a=b))/\(!true)=false/\(!false)=true :=
 ⟨fun _=>by simp,fun _=>by simp,by intros;simp,by intros;simp,by intros;simp,by intros;simp,by simp,by simp,by simp,fun a b=>by cases a<;>cases b<;>simp,rfl,rfl⟩
theorem tm0 {p:Prop} (h:p:=by first | exact ac4 rfl | exact ac4 (zG _) | exact ac4 (kH _) | exact ac4 (ar.pure _) | exact ac4 (ck.pure _) | exact ac4 (fc ar _ _) | exact kL (zG _) rfl | exact kL (kH _) rfl | exact kL (ar.pure _) rfl | exact kL (kH _) (kH _) | exact aii (kH _) (kH _) rfl | exact kL rfl rfl | exact aii rfl rfl rfl | exact kL (fc ar _ _) (fc ar _ _) | exact kL (fc ar _ _) rfl):p:=h
theorem imZ {H:bW}:cY H (.agg [.v (.bool false),.list 1 [],.list 1 []]) (ah 0):=q8 ▸ .pure (ar.pure 0)
theorem et {p:Prop} (h:p:=by first | exact .pure rfl | exact .pure (fc gv _ _) | exact .pure (kH _) | exact .pure (ar.pure _) | exact .pure (ck.pure _) | exact imZ | exact .pure (fc ar _ _) | exact .pure (zG _) | exact .nil _ | exact .pure (fc pP _ _) | exact .pure (fc ck _ _) | exact .pure (bl.pure ⟨_,_,_⟩) | exact .pure (bF.pure _) | exact .pure (fc bl _ _) | exact .pure (fc bF _ _) | exact .pure (by assumption) | exact .pure pu):p:=h
theorem im1 {p:Prop} (h:p:=by first | exact .pure rfl | exact .pure (fc gv _ _) | exact .pure (kH _) | exact .pure (ar.pure _) | exact .pure (ck.pure _) | exact .pure (fc ar _ _) | exact .pure (zG _) | exact .nil _ | exact .pure (fc pP _ _) | exact .pure (fc ck _ _) | exact .pure (by assumption) | exact fI gv rfl rfl (by first | rfl | omega | exact(adz _ _).symm | (simp;done) | (simp;omega)) | exact fI ar rfl rfl (by first | rfl | omega | exact(adz _ _).symm | (simp;done) | (simp;omega)) | exact ax9 gv rfl rfl (by first | omega | (simp;omega)) | exact ax9 ar rfl rfl (by first | omega | (simp;omega))):p:=h
theorem nt0 {p:Prop} (h:p:=by first | (simp;done) | exact(fun m h=>LV.noConfusion h) | exact LV.eW (kH _) | exact LV.eW (ar.pure _) | exact LV.eW (ck.pure _) | exact LV.eW (zG _) | exact LV.eW (fc ar _ _) | exact LV.eW (by assumption)):p:=h
theorem nK {p:Prop} (h:p:=by first | exact⟨(fun h=>by cases h),(fun _ h=>by cases h)⟩ | exact⟨LV.fp (ar.pure _),LV.eW (ar.pure _)⟩ | exact⟨LV.fp (ck.pure _),LV.eW (ck.pure _)⟩ | exact⟨LV.fp (bl.pure _),LV.eW (bl.pure _)⟩ | exact⟨LV.fp (bF.pure _),LV.eW (bF.pure _)⟩ | exact⟨LV.fp (by assumption),LV.eW (by assumption)⟩):p:=h
theorem aGY {a s:Nat} (hs:s<=32):qo .shl .u32 (a:Nat) (32-(s:Int))=some (.int .u32 ((a % 2 ^ s*2 ^ (32-s):Nat):Int)):=by
 have:=azo (a:=a) (s:=32-s) ae
 rw [show 32-(32-s)=s by omega] at this
 rwa [show (32:Int)-(s:Int)=((32-s:Nat):Int) by omega]
end Go.Lg
namespace Go.Lg
def mQ (s:Bool) (n:Nat):Int:=bif s then -(n:Int) else n
theorem aGW (s:Bool):mQ s 0=0:=by cases s<;>rfl
theorem ait (s:Bool) (n:Nat):(mQ s n).natAbs=n:=by cases s<;>simp [mQ]
theorem ay2 (q:Rat):mQ (decide (q<0)) q.num.natAbs=q.num:=by
 have h:(q<0)↔q.num<0:=by rw [<-axS,<-avF];omega
 by_cases hq:q<0
 ·have:=h.1 hq;simp only [hq,decide_true,mQ,cond_true];omega
 ·have h2:¬ q.num<0:=fun x=>hq (h.2 x)
  simp only [hq,decide_false,mQ,cond_false];omega
theorem agP (q:Rat):(q<0)↔q.num<0:=by rw [<-axS,<-avF];omega
def qv (s:Bool) (n d:Nat):Rat:=mkRat (mQ s n) d
theorem anY (s:Bool) {n d:Nat} (hn:0<n) (hd:0<d):(qv s n d).num.natAbs=n/n.gcd d:=by
 rw [qv,awA,if_neg ae,ait,rD]
 have h:((n.gcd d:Nat):Int) ∣ mQ s n:=by
  cases s
  ·exact amr.2 (abg _ _)
  ·exact(Int.dvd_neg.2 (amr.2 (abg _ _)))
 rw [Int.natAbs_ediv_of_dvd h,ait]
 simp
theorem ar3 (s:Bool) (n:Nat) {d:Nat} (hd:0<d):(qv s n d).den=d/n.gcd d:=by
 rw [qv,Rat.den_mkRat,if_neg ae,ait,rD]
theorem aDc (s:Bool) {n d:Nat} (hn:0<n) (hd:0<d):decide (qv s n d<0)=s:=by
 have h1:(qv s n d).num=mQ s n/(n.gcd d:Nat):=by rw [qv,awA,if_neg ae,ait,rD]
 have hg:0<n.gcd d:=Nat.gcd_pos_of_pos_left _ hn
 have h2:=anY s hn hd
 have h3:n/n.gcd d≠0:=by
  have:=Nat.div_pos (Nat.le_of_dvd hn (abg n d)) hg;omega
 cases s
 ·have:0<=(qv false n d).num:=by rw [h1];exact asU (by simp [mQ]) ae
  simp only [decide_eq_false_iff_not];rw [agP];omega
 ·have:(qv true n d).num<=0:=by
   rw [h1];simp only [mQ,cond_true]
   have iU:((n.gcd d:Nat):Int) ∣ (n:Int):=amr.2 (abg _ _)
   rw [Int.neg_ediv_of_dvd iU]
   have:=asU (a:=(n:Int)) (b:=(n.gcd d:Nat)) ae ae
   omega
  simp only [decide_eq_true_eq];rw [agP];omega
theorem af6 (s:Bool) (d:Nat):qv s 0 d=0:=by rw [qv,aGW,Rat.zero_mkRat]
theorem al5 (s:Bool) (n:Nat):qv s n 0=0:=by rw [qv];simp
theorem nx (q:Rat):qv (decide (q<0)) q.num.natAbs q.den=q:=by rw [qv,ay2,aui]
def xa (s:Bool) (q:Rat):Rat:=qv s q.num.natAbs q.den
theorem aja (q:Rat):xa (decide (q<0)) q=q:=nx q
theorem aBi (s:Bool) (n:Nat):mQ (!s) n=- mQ s n:=by cases s<;>simp [mQ]
theorem aF2 (q:Rat):xa (!decide (q<0)) q=-q:=by
 rw [xa,qv,aBi,<-aoT,ay2,aui]
theorem ajR (s t:Bool) (n d m e:Nat):qv s n d*qv t m e=qv (s != t) (n*m) (d*e):=by
 simp only [qv,Rat.mkRat_mul_mkRat]
 congr 1
 cases s<;>cases t<;>simp [mQ,Int.mul_neg,aib]
theorem ayG (s:Bool) {n d m e:Nat} (hd:0<d) (he:0<e):qv s n d+qv s m e=qv s (n*e+m*d) (d*e):=by
 simp only [qv];rw [alD _ _ ae ae]
 congr 1
 cases s<;>simp [mQ,aib]<;>omega
theorem asw (s t:Bool) {n d m e:Nat} (hd:0<d) (he:0<e) (dj:s≠t) (h:m*d<=n*e):qv s n d+qv t m e=qv s (n*e-m*d) (d*e):=by
 simp only [qv];rw [alD _ _ ae ae]
 congr 1
 cases s<;>cases t<;>simp_all [mQ,aib]<;>omega
theorem awt (s t:Bool) {n d m e:Nat} (hd:0<d) (he:0<e) (dj:s≠t) (h:n*e<=m*d):qv s n d+qv t m e=qv t (m*d-n*e) (d*e):=by
 simp only [qv];rw [alD _ _ ae ae]
 congr 1
 cases s<;>cases t<;>simp_all [mQ,aib]<;>omega
theorem aDm (x:Rat):(-x)⁻¹=-x⁻¹:=by grind
theorem aG0 (s:Bool) (n d:Nat):(qv s n d)⁻¹=qv s d n:=by
 have h0:(qv false n d)⁻¹=qv false d n:=by
  simp only [qv,Rat.mkRat_eq_div,mQ,cond_false]
  rw [iV,Rat.inv_mul_rev,Rat.inv_inv,iV]
  rfl
 cases s
 ·exact h0
 ·have e:∀ n d:Nat,qv true n d=- qv false n d:=fun n d=>by simp only [qv,mQ,cond_true,cond_false,aoT]
  rw [e,e,aDm,h0]
theorem ahL (s t:Bool) (n d m e:Nat):qv s n d/qv t m e=qv (s != t) (n*e) (d*m):=by
 rw [iV,aG0,ajR]
theorem anz (s:Bool) {n d k:Nat} (hk:0<k):qv s (n*k) (d*k)=qv s n d:=by
 by_cases hd:d=0
 ·subst hd;simp [al5]
 simp only [qv]
 rw [Rat.mkRat_eq_iff (by have:=mG (vD hd) hk;omega) hd]
 cases s<;>simp [mQ]<;>grind
theorem xu (q:Rat):jT q=if q.den=1 then 0 else q.den:=rfl
def rl (q:Rat):Nat:=max (ao q.num.natAbs).length (ao q.den).length
theorem nd (q:Rat):(ao q.num.natAbs).length<=rl q:=atG _ _
theorem oO (q:Rat):(ao q.den).length<=rl q:=amq _ _
theorem n8 (q:Rat):(ao (jT q)).length<=rl q:=by
 rw [xu];split
 ·simp [wN]
 ·exact oO q
theorem aJO {q:Rat} {k:Nat} (hn:q.num.natAbs<4294967296 ^ k) (hd:q.den<4294967296 ^ k):rl q<=k :=
 Nat.max_le.2 ⟨yc hn,yc hd⟩
theorem ads (q:Rat):q.num.natAbs<4294967296 ^ rl q/\q.den<4294967296 ^ rl q:=⟨vm (nd q),vm (oO q)⟩
theorem asn (q:Rat):1<=rl q:=by
 have:=oO q
 have h:ao q.den≠[]:=fun h=>q.den_nz (tv.1 h)
 have:=List.length_pos_iff.2 h
 omega
theorem acm (s:Bool) {n d k:Nat} (hn:n<4294967296 ^ k) (hd:d<4294967296 ^ k):rl (qv s n d)<=max k 1:=by
 by_cases jM:d=0
 ·subst jM;rw [al5];exact ba (adY (by rfl)) (amq _ _)
 by_cases jn:n=0
 ·subst jn;rw [af6];exact ba (adY (by rfl)) (amq _ _)
 refine ba (aJO (k:=k) ?_ ?_) (atG _ _)
 ·rw [anY s ae ae];exact uP (vF _ _) hn
 ·rw [ar3 s n ae];exact uP (vF _ _) hd
theorem ai3 (q:Rat):rl (-q)=rl q:=by simp [rl]
theorem aaK {x y a b:Nat} (hx:x<4294967296 ^ a) (hy:y<4294967296 ^ b):x*y<4294967296 ^ (a+b):=by
 rw [mg];exact Nat.mul_lt_mul'' hx hy
theorem df (a b:Rat):rl (a*b)<=rl a+rl b:=by
 have ha:=ads a
 have hb:=ads b
 have:=acm (decide (a<0) != decide (b<0)) (aaK ha.1 hb.1) (aaK ha.2 hb.2)
 rw [<-ajR,nx,nx] at this
 have:=asn a
 omega
theorem tA (a b:Rat):rl (a/b)<=rl a+rl b:=by
 have ha:=ads a
 have hb:=ads b
 have:=acm (decide (a<0) != decide (b<0)) (aaK ha.1 hb.2) (aaK ha.2 hb.1)
 rw [<-ahL,nx,nx] at this
 have:=asn a
 omega
theorem ao6 {x y k:Nat} (hx:x<4294967296 ^ k) (hy:y<4294967296 ^ k):x+y<4294967296 ^ (k+1):=by
 rw [jt];omega
theorem lN (a b:Rat):rl (a+b)<=rl a+rl b+1:=by
 have ha:=ads a
 have hb:=ads b
 have hd:=aaK ha.2 hb.2
 have iU:a.den*b.den<4294967296 ^ (rl a+rl b+1):=aow hd (Nat.pow_lt_pow_right ae ae)
 have h1:=aaK ha.1 hb.2
 have h2:=aaK ha.2 hb.1
 have hs:=ao6 h1 h2
 have key:∀ n,n<=a.num.natAbs*b.den+a.den*b.num.natAbs->∀ s,a+b=qv s n (a.den*b.den)->rl (a+b)<=rl a+rl b+1:=by
  intro n hn s e
  rw [e]
  have:=acm s (uP hn hs) iU
  omega
 rw [fA a.den b.num.natAbs] at key
 by_cases dj:decide (a<0)=decide (b<0)
 ·refine key _ (bq _) (decide (a<0)) ?_
  have:=ayG (decide (a<0)) (n:=a.num.natAbs) (m:=b.num.natAbs) a.den_pos b.den_pos
  rw [<-this,nx,dj,nx]
 ·rcases Nat.le_total (b.num.natAbs*a.den) (a.num.natAbs*b.den) with h | h
  ·refine key (a.num.natAbs*b.den-b.num.natAbs*a.den) ae (decide (a<0)) ?_
   have:=asw _ _ a.den_pos b.den_pos dj h
   rw [<-this,nx,nx]
  ·refine key (b.num.natAbs*a.den-a.num.natAbs*b.den) ae (decide (b<0)) ?_
   have:=awt _ _ a.den_pos b.den_pos dj h
   rw [<-this,nx,nx]
theorem jF (a b:Rat):rl (a-b)<=rl a+rl b+1:=by
 have:=lN a (-b)
 rw [ai3] at this
 rwa [Rat.sub_eq_add_neg]
theorem aeW (s:Bool) {n d:Nat} (hn:0<n) (hd:0<d):ah (qv s n d)=.agg [.v (.bool s),bj (n/n.gcd d),bj (if d/n.gcd d=1 then 0 else d/n.gcd d)]:=by
 rw [wz,aDc s hn hd,anY s hn hd,xu,ar3 s n hd]
def gJ (a b:Rat):Int:=if a<b then -1 else if b<a then 1 else 0
section
variable {P:Program} {H:bW} {ρ:Operand->LV} {T:TypeId} {p x:Operand} {b i d sz:Nat} {q:Rat} {vals:List LV} {m ag:Bool} {α:Type} {e:α->LV} {a:α}
theorem aF.aII (hp:ρ p=.aD b 3 i 0) (hb:H b=some ⟨3,vals,m⟩) (hi:vals[i]?=some (ah q)) (hT:bE P T 1 false):aF P H ρ (.load T p) (.v (.bool (decide (q<0)))):=.gj hp hb rfl hi (ar.aw _) (aAp q) hT
theorem aF.aHP (hp:ρ p=.aD b 3 i 1) (hb:H b=some ⟨3,vals,m⟩) (hi:vals[i]?=some (ah q)) (hT:bE P T 1 false):aF P H ρ (.load T p) (bj q.num.natAbs):=.gj hp hb rfl hi (ar.aw _) (aFD q) hT
theorem aF.aHq (hp:ρ p=.aD b 3 i 2) (hb:H b=some ⟨3,vals,m⟩) (hi:vals[i]?=some (ah q)) (hT:bE P T 1 false):aF P H ρ (.load T p) (bj (jT q)):=.gj hp hb rfl hi (ar.aw _) (aGd q) hT
theorem aF.aGO (hp:ρ p=.aD b 3 i 0) (hb:H b=some ⟨3,vals,m⟩) (hi:vals[i]?=some (ah q)) (hT:bE P T 3 true):aF P H ρ (.load T p) (ah q):=.gj hp hb rfl hi (ar.aw _) (rh q) hT
theorem dE.aeg (he:iZ e sz ag) (hx:ρ x=e a):dE P ρ d (.box T x) (.aD d sz 0 0) ⟨sz,[e a],true⟩:=by
 have h:=dE.box (P:=P) (ρ:=ρ) (d:=d) (T:=T) (x:=x) (by rw [hx];exact⟨fun h=>by have:=he.pure a;rw [h] at this;simp [LV.pure] at this,LV.eW (he.pure a)⟩)
 rwa [hx,he.aw] at h
theorem dE.aKa (he:iZ e sz ag) (hz:dp P T (e a)):dE P ρ d (.alloc T) (.aD d sz 0 0) ⟨sz,[e a],true⟩:=by
 have h:=dE.alloc (ρ:=ρ) (d:=d) hz
 rwa [he.aw] at h
end
section
variable {P:Program} {L:St} {dst:Option Nat} {T:TypeId} {p x:Operand} {b:Nat} {q:Rat} {zs:List LV}
theorem g7.aCg (hp:L.ev p=.aD b 3 0 0) (hb:L.heap b=some ⟨3,[.agg zs],true⟩) (hz:da zs=3) (hx:L.ev x=ah q) (hT:bE P T 3 true) :
  g7 P L dst (.store T p x) ((L.bO b (some ⟨3,[ah q],true⟩)).put dst .any):=by
 have h:=g7.store (P:=P) (dst:=dst) (T:=T) (p:=p) (x:=x) (y:=.agg zs) (y':=ah q) hp hb rfl rfl rfl (by simp [LV.aw,hz])
  (by rw [hx];simp [LV.put,hz,ar.aw,ar.isAgg]) (by rw [hx,ar.aw,ar.isAgg];exact hT)
  (by rw [hx];exact⟨fun h=>by have:=ar.pure q;rw [h] at this;simp [LV.pure] at this,LV.eW (ar.pure q)⟩)
 exact h
end
section
variable {P:Program} {H:bW} {ρ:Operand->LV} {T:TypeId} {p x y:Operand} {b i d sz:Nat} {s:Rat × Rat} {vals:List LV} {m ag:Bool} {q r:Rat}
theorem aF.aE2 (hp:ρ p=.aD b 6 i 0) (hb:H b=some ⟨6,vals,m⟩) (hi:vals[i]?=some (aE s)) (hT:bE P T 3 true):aF P H ρ (.load T p) (ah s.1):=.gj hp hb rfl hi (ck.aw _) (aqo s) hT
theorem aF.aCI (hp:ρ p=.aD b 6 i 3) (hb:H b=some ⟨6,vals,m⟩) (hi:vals[i]?=some (aE s)) (hT:bE P T 3 true):aF P H ρ (.load T p) (ah s.2):=.gj hp hb rfl hi (ck.aw _) (auQ s) hT
theorem aF.aIS (hp:ρ p=.aD b 6 i 0) (hb:H b=some ⟨6,vals,m⟩) (hi:vals[i]?=some (aE s)) (hT:bE P T 6 true):aF P H ρ (.load T p) (aE s):=.gj hp hb rfl hi (ck.aw _) (aaQ s) hT
theorem aF.axT (hT:mo P T [(3,true),(3,true)]) (hz:dp P T (.agg [ah 0,ah 0])) (hx:ρ x=ah q) (hy:ρ y=ah r):aF P H ρ (.build T #[(0,x),(1,y)]) (aE (q,r)):=by
 have:=aF.build (P:=P) (H:=H) (ρ:=ρ) (T:=T) (ps:=#[(0,x),(1,y)]) (zs:=[ah 0,ah 0]) (by simpa [lay,ar.aw,ar.isAgg] using hT) hz (by
  simp only [List.forall_mem_cons]
  exact⟨⟨_,rfl,by simp [lay,hx,ar.aw,ar.isAgg],by rw [hx];exact⟨LV.fp (ar.pure _),LV.eW (ar.pure _)⟩⟩,⟨_,rfl,by simp [lay,hy,ar.aw,ar.isAgg],by rw [hy];exact⟨LV.fp (ar.pure _),LV.eW (ar.pure _)⟩⟩,fun _ h=>by cases h⟩)
 rw [yN]
 simpa [kh,hx,hy] using this
theorem g7.aI7 {L:St} {dst:Option Nat} {s0:Rat × Rat} (hp:L.ev p=.aD b 6 0 0) (hb:L.heap b=some ⟨6,[aE s0],true⟩) (hx:L.ev x=aE s) (hT:bE P T 6 true) :
  g7 P L dst (.store T p x) ((L.bO b (some ⟨6,[aE s],true⟩)).put dst .any):=by
 have h0:LV.put (aE s0) 0 (L.ev x)=some (aE s):=by
  rw [hx,yN s0]
  simp [LV.put,ck.aw,ck.isAgg,da,LV.aw,ar.aw]
 have h:=g7.store (P:=P) (dst:=dst) (T:=T) (p:=p) (x:=x) (y:=aE s0) (y':=aE s) hp hb rfl rfl rfl (ck.aw _) h0 (by rw [hx,ck.aw,ck.isAgg];exact hT)
  (by rw [hx];exact⟨LV.fp (ck.pure s),LV.eW (ck.pure s)⟩)
 exact h
end
theorem amp {L:St} {α:Type} {e:α->LV} {ag:Bool} {bs:List Nat} {b sz off len:Nat} {l l':List α} {m:Bool} (he:iZ e sz ag) (hb:L.heap b=some ⟨sz,l.map e,m⟩) (sB:bs.contains b=true) (hl:off+len<=l.length) (h:(l.drop off).take len=l') :
  cY (L.cd bs).heap (.ref b sz off len) (.list sz (l'.map e)):=by
 have:=afP (L:=L) (bs:=bs) (off:=off) (len:=len) hb sB (a7 he l) (by simpa using hl)
 rwa [<-List.map_drop,<-xR,h] at this
theorem aCr {n:Int} (h1:-9223372036854775808<n) (h2:n<=9223372036854775807):(if IntKind.i64.wrap (0-n) > n then IntKind.i64.wrap (0-n) else n)=((n.natAbs:Nat):Int):=by
 rw [IntWalk.i64_in _ ae];split<;>omega
theorem aeF (n:Int):qv (decide (n<0)) n.natAbs 1=(n:Rat):=by
 have:mQ (decide (n<0)) n.natAbs=n:=by
  by_cases h:n<0
  ·simp only [h,decide_true,mQ,cond_true];omega
  ·simp only [h,decide_false,mQ,cond_false];omega
 rw [qv,this,Rat.mkRat_one]
theorem afs (n d:Int):qv (decide (n<0) != decide (d<0)) n.natAbs d.natAbs=(n:Rat)/(d:Rat):=by
 rw [<-aeF n,<-aeF d,ahL];simp
theorem aEe {q:Rat} (h:q.den<4294967296):(ao (jT q)).length<=1:=uJ.2 (by rw [xu];split<;>omega)
theorem ajQ {q:Rat} (h:0<(ao (jT q)).length):jT q=q.den:=by
 rw [xu] at h ⊢;split
 ·rename_i h1;rw [if_pos h1] at h;simp [wN] at h
 ·rfl
theorem aoo {q:Rat} (h:(ao (jT q)).length=0):q.den=1:=by
 have h0:=tv.1 (List.eq_nil_of_length_eq_zero h)
 rw [xu] at h0
 have:=q.den_pos
 split at h0
 ·assumption
 ·omega
def yq (q:Rat):Bool:=decide (q.num.natAbs<4294967296/\q.den<4294967296)
def pN (q:Rat):Nat:=if yq q then q.num.natAbs else 0
def pD (q:Rat):Nat:=if yq q then q.den else 0
def cW (a:Rat):Int:=if a=0 then 0 else if a<0 then -1 else 1
theorem axY (q:Rat):cW q=if q.num.natAbs=0 then 0 else if q<0 then -1 else 1:=by
 unfold cW
 by_cases h:q=0
 ·subst h;rfl
 ·have:¬ q.num.natAbs=0:=fun h2=>h (Rat.num_eq_zero.1 ae)
  rw [if_neg h,if_neg this]
def qX (l:List Nat) (off n:Nat):List Nat:=if n<4294967296 then l.set off n else(l.set off (n % 4294967296)).set (off+1) (n/4294967296)
def nn (n:Nat):Nat:=if n<4294967296 then 1 else 2
theorem agH {n:Nat} (h0:0<n) (h:n<18446744073709551616):(n<4294967296/\nn n=1/\ao n=[n])\/(4294967296<=n/\nn n=2/\ao n=[n % 4294967296,n/4294967296]):=by
 by_cases hn:n<4294967296
 ·exact .inl ⟨hn,by simp [nn,hn],ady h0 hn⟩
 ·refine .inr ⟨ae,by simp [nn,hn],?_⟩
  rw [abt h0,ady ae ae]
theorem aEX {n:Nat} (h0:0<n) (h:n<18446744073709551616):((qX [0,0,0,0] 0 n).drop 0).take (nn n)=ao n:=by
 rcases agH h0 h with⟨h1,h2,h3⟩ | ⟨h1,h2,h3⟩
 ·rw [h2,h3];simp [qX,h1]
 ·rw [h2,h3];simp [qX,anb.2 h1]
theorem aBy {n d:Nat} (h0:0<n) (h:n<18446744073709551616) (g0:0<d) (g:d<18446744073709551616) :
  ((qX (qX [0,0,0,0] 0 n) (nn n) d).drop 0).take (nn n)=ao n/\((qX (qX [0,0,0,0] 0 n) (nn n) d).drop (nn n)).take (nn d)=ao d:=by
 rcases agH h0 h with⟨h1,h2,h3⟩ | ⟨h1,h2,h3⟩<;>rcases agH g0 g with⟨g1,g2,g3⟩ | ⟨g1,g2,g3⟩<;>rw [h2,h3,g2,g3]<;>simp [qX, *,anb.2]
theorem akD (l:List Nat) (off n:Nat):(qX l off n).length=l.length:=by unfold qX;split<;>simp
section
variable {P:Program} {ρ:Operand->LV} {α:Type} {e:α->LV}
theorem dE.aDA {T E:TypeId} {x y w:Operand} {d sz:Nat} {ag:Bool} {z a b c:α} (he:iZ e sz ag) (hT:P.underlying T=some (.slice E)) (hz:dp P E (e z)) (hE:bE P E sz ag) (hx:ρ x=e a) (hy:ρ y=e b) (hw:ρ w=e c) (dO:0<sz) (kT:sz<=1000) :
  dE P ρ d (.buildSlice T 3 #[(0,x),(1,y),(2,w)]) (.ref d sz 0 3) ⟨sz,[a,b,c].map e,true⟩:=by
 have aX:∀ v,ρ v=e a\/ρ v=e b\/ρ v=e c->lay (ρ v)=lay (e z)/\ρ v≠.any/\∀ m,ρ v≠.bf m:=by
  rintro v (h | h | h)<;>rw [h]<;>exact⟨by simp [lay,he.aw,he.isAgg],LV.fp (he.pure _),LV.eW (he.pure _)⟩
 have:=dE.lit (P:=P) (ρ:=ρ) (d:=d) (T:=T) (n:=3) (ps:=#[(0,x),(1,y),(2,w)]) hT hz (by rw [he.isAgg];exact hE) (he.aw z) ae ae dO (by
  intro p hp
  simp only [fx,jy,or_false] at hp
  rcases hp with rfl | rfl | rfl
  ·exact⟨by show 0<3;omega,aX x (.inl hx)⟩
  ·exact⟨by show 1<3;omega,aX y (.inr (.inl hy))⟩
  ·exact⟨by show 2<3;omega,aX w (.inr (.inr hw))⟩)
 simpa [kh,hx,hy,hw,ay] using this
theorem dE.asT {T E:TypeId} {x y w z':Operand} {d sz:Nat} {ag:Bool} {z a b c f:α} (he:iZ e sz ag) (hT:P.underlying T=some (.slice E)) (hz:dp P E (e z)) (hE:bE P E sz ag) (hx:ρ x=e a) (hy:ρ y=e b) (hw:ρ w=e c) (hf:ρ z'=e f) (dO:0<sz) (kT:sz<=1000) :
  dE P ρ d (.buildSlice T 4 #[(0,x),(1,y),(2,w),(3,z')]) (.ref d sz 0 4) ⟨sz,[a,b,c,f].map e,true⟩:=by
 have aX:∀ v,ρ v=e a\/ρ v=e b\/ρ v=e c\/ρ v=e f->lay (ρ v)=lay (e z)/\ρ v≠.any/\∀ m,ρ v≠.bf m:=by
  rintro v (h | h | h | h)<;>rw [h]<;>exact⟨by simp [lay,he.aw,he.isAgg],LV.fp (he.pure _),LV.eW (he.pure _)⟩
 have:=dE.lit (P:=P) (ρ:=ρ) (d:=d) (T:=T) (n:=4) (ps:=#[(0,x),(1,y),(2,w),(3,z')]) hT hz (by rw [he.isAgg];exact hE) (he.aw z) ae ae dO (by
  intro p hp
  simp only [fx,jy,or_false] at hp
  rcases hp with rfl | rfl | rfl | rfl
  ·exact⟨by show 0<4;omega,aX x (.inl hx)⟩
  ·exact⟨by show 1<4;omega,aX y (.inr (.inl hy))⟩
  ·exact⟨by show 2<4;omega,aX w (.inr (.inr (.inl hw)))⟩
  ·exact⟨by show 3<4;omega,aX z' (.inr (.inr (.inr hf)))⟩)
 simpa [kh,hx,hy,hw,hf,ay] using this
end
theorem lR {P:Program} {L L0:St} {c:Code} {Q:ku->St->Prop} (hw:az L L0) (h:cP P (.loop c) Q L0):cP P (.loop c) Q L:=by
 intro I hI
 obtain⟨L1,h1,h2⟩:=h I hI
 exact⟨L1,hw.trans h1,h2⟩
section
variable {P:Program} {ops:Array Oper} {D:Array Bool} {L:St} {K:St->Prop} {fuel:Nat}
theorem fW (hr:Region.ready .any ops D=[]) (k:K L):jx P ops fuel D L K:=by
 cases fuel with
 | zero=>exact⟨hr,k⟩
 | succ n=>exact⟨fun _=>k,fun i hi=>by rw [hr] at hi;cases hi⟩
theorem a6 (i:Nat) (o:Oper) (hr:Region.ready .any ops D=[i]) (ho:ops[i]?=some o) (h:opsL P false ops [o] L (fun L'=>jx P ops fuel (D.setIfInBounds i true) L' K)):jx P ops (fuel+1) D L K:=by
 refine⟨fun e=>(by rw [hr] at e;cases e),fun j hj=>?_⟩
 rw [hr,gS] at hj
 subst hj
 obtain⟨L',h1,h2⟩:=h
 exact⟨o,L',ho,h1,h2⟩
theorem kz (i j:Nat) (o o2:Oper) (hr:Region.ready .any ops D=[i,j]) (ho:ops[i]?=some o) (ho2:ops[j]?=some o2) (h:opsL P false ops [o] L (fun L'=>jx P ops fuel (D.setIfInBounds i true) L' K))
  (h2:opsL P false ops [o2] L (fun L'=>jx P ops fuel (D.setIfInBounds j true) L' K)):jx P ops (fuel+1) D L K:=by
 refine⟨fun e=>(by rw [hr] at e;cases e),fun x hx=>?_⟩
 rw [hr] at hx
 simp only [fx,jy,or_false] at hx
 rcases hx with rfl | rfl
 ·obtain⟨L',h1,h3⟩:=h
  exact⟨o,L',ho,h1,h3⟩
 ·obtain⟨L',h1,h3⟩:=h2
  exact⟨o2,L',ho2,h1,h3⟩
end
class UN (P:Program) (T:TypeId) (d:outParam TypeDesc):Prop where
 h:P.underlying T=some d
class TI (P:Program) (T:TypeId) (sz:outParam Nat) (ag:outParam Bool):Prop where
 h:bE P T sz ag
class SI (P:Program) (T:TypeId) (l:outParam (List (Nat × Bool))):Prop where
 h:mo P T l
class BI (P:Program) (T:TypeId) (n:outParam Nat):Prop where
 h:mT P T n
class ZI (P:Program) (T:TypeId) (z:outParam LV):Prop where
 h:dp P T z
class EC (P:Program) (T:TypeId) {α:outParam Type} (e:outParam (α->LV)) (sz:outParam Nat) (ag:outParam Bool) (z:outParam α):Prop where
 h:iZ e sz ag
 z:dp P T (e z)
 t:bE P T sz ag
class AE (P:Program) (T:TypeId) {α:outParam Type} (e:outParam (α->LV)) (sz:outParam Nat) (ag:outParam Bool) (z:outParam α):Prop where
 h:iZ e sz ag
 z:dp P T (e z)
theorem zHs {p:Prop} (h:p:=by first | (simp only [hce,l1,t0,t1,gk,cq];exact rfl) | exact rfl):p:=h
theorem agU {S:St->St} {L L1:St} (h:S L1=L):∃ L1,az L (S L1):=⟨L1,az.of_eq h⟩
def aFY:BinOp->Bool
 | .eql | .neq | .lss | .leq | .gtr | .geq=>true
 | _=>false
section
variable {P:Program} {H:bW} {ρ:Operand->LV} {α:Type} {e:α->LV} {sz:Nat} {ag:Bool} {z a:α} {T E:TypeId} {p x i:Operand} {L L0:St} {Q:ku->St->Prop} {K:St->Prop}
theorem aF.ldB [c:EC P T e sz ag z] (hp:ρ p=.cr (e a)):aF P H ρ (.load T p) (e a):=.ahY c.h hp c.t
theorem aF.ldE [Inhabited α] [c:EC P T e sz ag z] {b i:Nat} {l:List α} {m:Bool} (hp:ρ p=.aD b sz i 0) (hb:H b=some ⟨sz,l.map e,m⟩) (hi:i<l.length):aF P H ρ (.load T p) (e (l.getD i default)):=.atE c.h hp hb c.t hi
theorem aF.ixL [Inhabited α] [u:UN P T (.slice E)] [c:EC P E e sz ag z] {l:List α} {k:IntKind} {n:Int} (hx:ρ x=.list sz (l.map e)) (hi:ρ i=.v (.int k n)) (h0:0<=n) (hn:n<l.length) :
  aF P H ρ (.indexAddr T x i) (.cr (e (l.getD n.toNat default))):=.amv c.h hx u.h c.t hi h0 hn
theorem aF.ixR [u:UN P T (.slice E)] [c:TI P E sz ag] {b off len:Nat} {k:IntKind} {n:Int} (hx:ρ x=.ref b sz off len) (hi:ρ i=.v (.int k n)) (h0:0<=n) (hn:n<len) :
  aF P H ρ (.indexAddr T x i) (.aD b sz (off+n.toNat) 0):=.xe hx u.h c.h hi h0 hn
theorem aF.cmp {op:BinOp} {U:TypeId} {y:Operand} {k:IntKind} {a b:Int} {r:Value} (hc:aFY op=true) (hx:ρ x=.v (.int k a)) (hy:ρ y=.v (.int k b)) (h:dN op k a b=some r):aF P H ρ (.binOp op T x y U) (.v r):=.bin hx hy h
theorem g7.stE [Inhabited α] [c:EC P T e sz ag z] {dst:Option Tmp} {b i:Nat} {l:List α} (hp:L.ev p=.aD b sz i 0) (hb:L.heap b=some ⟨sz,l.map e,true⟩) (hx:L.ev x=e a) (hi:i<l.length) :
  g7 P L dst (.store T p x) ((L.bO b (some ⟨sz,(l.set i a).map e,true⟩)).put dst .any):=.az4 c.h hp hb hx c.t hi
theorem dE.nh {dP:Nat} [u:UN P T (.slice E)] [c:EC P E e sz ag z] [b:BI P E dP] {d n m:Nat} {kl kc:IntKind} (hl:ρ x=.v (.int kl (n:Nat))) (hc:ρ i=.v (.int kc (m:Nat))) (kK:n<=m) (hm:dP*m<=281474976710656) (fe:m<=9223372036854775807) :
  dE P ρ d (.makeSlice T x i) (.ref d sz 0 n) ⟨sz,(ay n z).map e,true⟩:=.aor c.h u.h c.z c.t b.h hl hc kK hm fe
theorem dE.zM [c:EC P T e sz ag z] {d:Nat} (hx:ρ x=e a):dE P ρ d (.box T x) (.aD d sz 0 0) ⟨sz,[e a],true⟩:=.aeg c.h hx
theorem aH {c:Operand} {x y:Code} {t:Bool} {u v:Prop} (hc:L.ev c=.v (.bool t)) (h1:t=true->u->cP P x Q L) (h2:t=false->v->cP P y Q L)
  (e1:(t=true)=u:=by exact zHs) (e2:(t=false)=v:=by exact zHs):cP P (.cond c x y) Q L:=aly hc (fun h=>h1 h (e1 ▸ h)) (fun h=>h2 h (e2 ▸ h))
theorem dE.alE [c:AE P T e sz ag z] {d:Nat}:dE P ρ d (.alloc T) (.aD d sz 0 0) ⟨sz,[e z],true⟩:=.aKa c.h c.z
theorem dE.l0 [u:UN P T (.slice E)] [t:TI P E sz ag] {d:Nat}:dE P ρ d (.buildSlice T 0 #[]) (.ref d sz 0 0) ⟨sz,[],true⟩:=.aiJ u.h t.h
theorem dE.l1 [u:UN P T (.slice E)] [c:EC P E e sz ag z] {d:Nat} {x0:Operand} {a0:α} (h0:ρ x0=e a0) (dO:0<sz:=by decide) (kT:sz<=1000:=by decide):dE P ρ d (.buildSlice T 1 #[(0,x0)]) (.ref d sz 0 1) ⟨sz,[a0].map e,true⟩:=.anZ c.h u.h c.z c.t h0 dO kT
theorem dE.l2 [u:UN P T (.slice E)] [c:EC P E e sz ag z] {d:Nat} {x0 x1:Operand} {a0 a1:α} (h0:ρ x0=e a0) (h1:ρ x1=e a1) (dO:0<sz:=by decide) (kT:sz<=1000:=by decide):dE P ρ d (.buildSlice T 2 #[(0,x0),(1,x1)]) (.ref d sz 0 2) ⟨sz,[a0,a1].map e,true⟩:=.avN c.h u.h c.z c.t h0 h1 dO kT
theorem dE.l3 [u:UN P T (.slice E)] [c:EC P E e sz ag z] {d:Nat} {x0 x1 x2:Operand} {a0 a1 a2:α} (h0:ρ x0=e a0) (h1:ρ x1=e a1) (h2:ρ x2=e a2) (dO:0<sz:=by decide) (kT:sz<=1000:=by decide):dE P ρ d (.buildSlice T 3 #[(0,x0),(1,x1),(2,x2)]) (.ref d sz 0 3) ⟨sz,[a0,a1,a2].map e,true⟩:=.aDA c.h u.h c.z c.t h0 h1 h2 dO kT
theorem dE.l4 [u:UN P T (.slice E)] [c:EC P E e sz ag z] {d:Nat} {x0 x1 x2 x3:Operand} {a0 a1 a2 a3:α} (h0:ρ x0=e a0) (h1:ρ x1=e a1) (h2:ρ x2=e a2) (h3:ρ x3=e a3) (dO:0<sz:=by decide) (kT:sz<=1000:=by decide):dE P ρ d (.buildSlice T 4 #[(0,x0),(1,x1),(2,x2),(3,x3)]) (.ref d sz 0 4) ⟨sz,[a0,a1,a2,a3].map e,true⟩:=.asT c.h u.h c.z c.t h0 h1 h2 h3 dO kT
theorem ez {dr:Bool} {ops:Array Oper} {l:List Oper} (d:Nat) {b:Bool} {u v:Prop} (h:L.slot d=.v (.bool b)) (ht:b=true->u->opsL P dr ops l L K) (hf:b=false->v->opsL P dr ops l L K)
  (e1:(b=true)=u:=by exact zHs) (e2:(b=false)=v:=by exact zHs):opsL P dr ops l L K:=aI1 h (fun h=>ht h (e1 ▸ h)) (fun h=>hf h (e2 ▸ h))
theorem aF.bd {zs:List LV} {l:List (Nat × Bool)} {ps:Array (Nat × Operand)} [z:ZI P T (.agg zs)] [s:SI P T l] (h:zs.map lay=l) (hp:∀ p∈ps.toList,∃ z,zs[p.1]?=some z/\lay (ρ p.2)=lay z/\ρ p.2≠.any/\∀ m,ρ p.2≠.bf m) :
  aF P H ρ (.build T ps) (.agg (kh zs (ps.toList.map fun p=>(p.1,ρ p.2)))):=.build (h ▸ s.h) z.h hp
end
namespace H0
theorem aO {p q:Prop} (k:q) (e:p=q:=by simp only [e1,e2,e3,e4,p1,p2,p3,q1,q2,q3,l1,t0,t1,r1,r2,r3,r4,Nat.zero_add,Nat.reduceMul,Nat.reduceAdd,b1,b2,b3,b4,b5,b6,i1,i2,i3,i4,i5,i6,Nat.reduceBEq];exact rfl):p:=e.mpr k
end H0
theorem oo {p:Prop} (h:p:=by omega):p:=h
theorem om {p:Prop} (h:p:=by first | (refine aO ?_;omega) | omega):p:=h
theorem nf {p:Prop} (h:p:=by first | (refine aO ?_;exact rfl) | exact rfl):p:=h
theorem cl {p:Prop} (h:p:=by first | rfl | (refine aO ?_;first | exact trivial | rfl | (congr 3<;>omega) | (congr 2<;>omega))):p:=h
theorem ml {p:Prop} (h:p:=by first | rfl | (refine aO ?_;first | exact trivial | rfl | (congr 2<;>omega))):p:=h
theorem nt1:(!true)=false:=rfl
theorem nt2:(!false)=true:=rfl
theorem vG {p:Prop} (h:p:=by first | assumption | with_reducible rfl | with_reducible exact nt1 | with_reducible exact nt2):p:=h
theorem gd {p:Prop} (h:p:=by first | exact rfl | exact aP (v:=true) rfl rfl vG rfl | exact aP (v:=false) rfl rfl vG rfl):p:=h
theorem nes {p:Prop} (h:p:=by first | (intro p hp;cases hp;done) | (simp only [List.forall_mem_cons];first | exact⟨⟨_,rfl,rfl,nK⟩,fun _ h=>by cases h⟩ | exact⟨⟨_,rfl,rfl,nK⟩,⟨_,rfl,rfl,nK⟩,fun _ h=>by cases h⟩ | exact⟨⟨_,rfl,rfl,nK⟩,⟨_,rfl,rfl,nK⟩,⟨_,rfl,rfl,nK⟩,fun _ h=>by cases h⟩ | exact⟨⟨_,rfl,rfl,nK⟩,⟨_,rfl,rfl,nK⟩,⟨_,rfl,rfl,nK⟩,⟨_,rfl,rfl,nK⟩,fun _ h=>by cases h⟩)):p:=h
theorem aR {p:Prop} (h:p:=by exact .cons et .nil):p:=h
theorem au {p:Prop} (h:p:=by exact .cons et (.cons et .nil)):p:=h
theorem ig {p:Prop} (h:p:=by exact .cons et (.cons et (.cons et .nil))):p:=h
theorem am5 {p:Prop} (h:p:=by exact .cons et (.cons et (.cons et (.cons et (.cons et .nil))))):p:=h
theorem am0 {p:Prop} (h:p:=by exact .nil):p:=h
theorem tC {p:Prop} (h:p:=by exact .cons im1 .nil):p:=h
section
variable {P:Program} {dr:Bool} {ops:Array Oper} {rest:List Oper} {L:St} {K:St->Prop} {dst:Option Tmp} {ty:TypeId} {pos:String} {af:Array Edge} {g:Option (Nat × Bool)}
theorem cp {f:FuncId} {xs:Array Operand} {as:Array TypeId} {args:List LV} {r:LV} (ha:fY L.heap (xs.toList.map L.ev) args) (hk:ax P f args r) (k:opsL P dr ops rest (L.put dst r) K)
  (hg:ef ops L ⟨dst,.call ⟨.value (.func f),xs,as⟩,ty,pos,af,g⟩ true:=by exact gd):opsL P dr ops (⟨dst,.call ⟨.value (.func f),xs,as⟩,ty,pos,af,g⟩ :: rest) L K:=fG hg ha hk k
theorem tz {f:FuncId} {xs:Array Operand} {as:Array TypeId} {args:List LV} {r:LV} (bs:List Nat) (ha:fY (L.cd bs).heap (xs.toList.map L.ev) args) (hk:ax P f args r) (k:opsL P dr ops rest ((L.cd bs).put dst r) K)
  (hg:ef ops L ⟨dst,.call ⟨.value (.func f),xs,as⟩,ty,pos,af,g⟩ true:=by exact gd) (h0:bs.contains 0=false:=by exact rfl):opsL P dr ops (⟨dst,.call ⟨.value (.func f),xs,as⟩,ty,pos,af,g⟩ :: rest) L K:=aid bs hg h0 ha hk k
end
def Nx1 {α:Type} (S:α->St->St) (C:α->Prop) (μ:α->Nat) (a:α) (L:St):Prop:=∃ a' L2,C a'/\μ a'<μ a/\az L (S a' L2)
theorem dV {α:Type} {P:Program} {Q:ku->St->Prop} {L:St} {k:Code} (S:α->St->St) (C:α->Prop) (μ:α->Nat) (a:α) (hC:C a) (hr:∀ a' L1,C a'->cP P k (qi (Nx1 S C μ a') Q) (S a' L1))
  (h0:∃ L1,az L (S a L1):=by apply agU;repeat (first | exact bK cl | refine al ?_ cl)):cP P (.loop k) Q L:=by
 refine agZ (α:=α) (fun x=>S x) (fun x=>C x) (fun x=>μ x) a hC h0 ?_
 rintro a' L1 hc
 refine acf (fun e L h=>?_) (hr a' L1 hc)
 cases e with
 | normal =>
  obtain⟨a1,L2,h1,h2,h3⟩:=h
  exact⟨a1,L2,h1,h2,h3⟩
 | exit i=>exact h
 | ret=>exact h
theorem jL {α:Type} {S:α->St->St} {C:α->Prop} {μ:α->Nat} {a:α} {L L2:St} (a':α) (hc:C a') (hm:μ a'<μ a:=by omega) (he:az L (S a' L2):=by apply az.of_eq;repeat (first | exact bK cl | refine al ?_ cl)):Nx1 S C μ a L:=⟨a',L2,hc,hm,he⟩
def Nx2 {α β:Type} (S:α->β->St->St) (C:α->β->Prop) (μ:α->β->Nat) (a:α) (b:β) (L:St):Prop:=∃ a' b' L2,C a' b'/\μ a' b'<μ a b/\az L (S a' b' L2)
theorem ma {α β:Type} {P:Program} {Q:ku->St->Prop} {L:St} {k:Code} (S:α->β->St->St) (C:α->β->Prop) (μ:α->β->Nat) (a:α) (b:β) (hC:C a b) (hr:∀ a' b' L1,C a' b'->cP P k (qi (Nx2 S C μ a' b') Q) (S a' b' L1))
  (h0:∃ L1,az L (S a b L1):=by apply agU;repeat (first | exact bK cl | refine al ?_ cl)):cP P (.loop k) Q L:=by
 refine agZ (α:=α × β) (fun x=>S x.1 x.2) (fun x=>C x.1 x.2) (fun x=>μ x.1 x.2) (a,b) hC h0 ?_
 rintro⟨a',b'⟩ L1 hc
 refine acf (fun e L h=>?_) (hr a' b' L1 hc)
 cases e with
 | normal =>
  obtain⟨a1,b1,L2,h1,h2,h3⟩:=h
  exact⟨(a1,b1),L2,h1,h2,h3⟩
 | exit i=>exact h
 | ret=>exact h
theorem jh {α β:Type} {S:α->β->St->St} {C:α->β->Prop} {μ:α->β->Nat} {a:α} {b:β} {L L2:St} (a':α) (b':β) (hc:C a' b') (hm:μ a' b'<μ a b:=by omega) (he:az L (S a' b' L2):=by apply az.of_eq;repeat (first | exact bK cl | refine al ?_ cl)):Nx2 S C μ a b L:=⟨a',b',L2,hc,hm,he⟩
def Nx3 {α β γ:Type} (S:α->β->γ->St->St) (C:α->β->γ->Prop) (μ:α->β->γ->Nat) (a:α) (b:β) (c:γ) (L:St):Prop:=∃ a' b' c' L2,C a' b' c'/\μ a' b' c'<μ a b c/\az L (S a' b' c' L2)
theorem uE {α β γ:Type} {P:Program} {Q:ku->St->Prop} {L:St} {k:Code} (S:α->β->γ->St->St) (C:α->β->γ->Prop) (μ:α->β->γ->Nat) (a:α) (b:β) (c:γ) (hC:C a b c) (hr:∀ a' b' c' L1,C a' b' c'->cP P k (qi (Nx3 S C μ a' b' c') Q) (S a' b' c' L1))
  (h0:∃ L1,az L (S a b c L1):=by apply agU;repeat (first | exact bK cl | refine al ?_ cl)):cP P (.loop k) Q L:=by
 refine agZ (α:=α × β × γ) (fun x=>S x.1 x.2.1 x.2.2) (fun x=>C x.1 x.2.1 x.2.2) (fun x=>μ x.1 x.2.1 x.2.2) (a,b,c) hC h0 ?_
 rintro⟨a',b',c'⟩ L1 hc
 refine acf (fun e L h=>?_) (hr a' b' c' L1 hc)
 cases e with
 | normal =>
  obtain⟨a1,b1,c1,L2,h1,h2,h3⟩:=h
  exact⟨(a1,b1,c1),L2,h1,h2,h3⟩
 | exit i=>exact h
 | ret=>exact h
theorem ui {α β γ:Type} {S:α->β->γ->St->St} {C:α->β->γ->Prop} {μ:α->β->γ->Nat} {a:α} {b:β} {c:γ} {L L2:St} (a':α) (b':β) (c':γ) (hc:C a' b' c') (hm:μ a' b' c'<μ a b c:=by omega) (he:az L (S a' b' c' L2):=by apply az.of_eq;repeat (first | exact bK cl | refine al ?_ cl)):Nx3 S C μ a b c L:=⟨a',b',c',L2,hc,hm,he⟩
def Nx4 {α β γ δ:Type} (S:α->β->γ->δ->St->St) (C:α->β->γ->δ->Prop) (μ:α->β->γ->δ->Nat) (a:α) (b:β) (c:γ) (d:δ) (L:St):Prop:=∃ a' b' c' d' L2,C a' b' c' d'/\μ a' b' c' d'<μ a b c d/\az L (S a' b' c' d' L2)
theorem lp4 {α β γ δ:Type} {P:Program} {Q:ku->St->Prop} {L:St} {k:Code} (S:α->β->γ->δ->St->St) (C:α->β->γ->δ->Prop) (μ:α->β->γ->δ->Nat) (a:α) (b:β) (c:γ) (d:δ) (hC:C a b c d) (hr:∀ a' b' c' d' L1,C a' b' c' d'->cP P k (qi (Nx4 S C μ a' b' c' d') Q) (S a' b' c' d' L1))
  (h0:∃ L1,az L (S a b c d L1):=by apply agU;repeat (first | exact bK cl | refine al ?_ cl)):cP P (.loop k) Q L:=by
 refine agZ (α:=α × β × γ × δ) (fun x=>S x.1 x.2.1 x.2.2.1 x.2.2.2) (fun x=>C x.1 x.2.1 x.2.2.1 x.2.2.2) (fun x=>μ x.1 x.2.1 x.2.2.1 x.2.2.2) (a,b,c,d) hC h0 ?_
 rintro⟨a',b',c',d'⟩ L1 hc
 refine acf (fun e L h=>?_) (hr a' b' c' d' L1 hc)
 cases e with
 | normal =>
  obtain⟨a1,b1,c1,d1,L2,h1,h2,h3⟩:=h
  exact⟨(a1,b1,c1,d1),L2,h1,h2,h3⟩
 | exit i=>exact h
 | ret=>exact h
theorem rP {α β γ δ:Type} {S:α->β->γ->δ->St->St} {C:α->β->γ->δ->Prop} {μ:α->β->γ->δ->Nat} {a:α} {b:β} {c:γ} {d:δ} {L L2:St} (a':α) (b':β) (c':γ) (d':δ) (hc:C a' b' c' d') (hm:μ a' b' c' d'<μ a b c d:=by omega) (he:az L (S a' b' c' d' L2):=by apply az.of_eq;repeat (first | exact bK cl | refine al ?_ cl)):Nx4 S C μ a b c d L:=⟨a',b',c',d',L2,hc,hm,he⟩
structure V3 where
 x:Rat
 y:Rat
 z:Rat
instance:Inhabited V3:=⟨⟨0,0,0⟩⟩
def a5 (p:V3):LV:=.agg [ah p.x,ah p.y,ah p.z]
theorem bl:iZ a5 9 true:=by
 refine⟨fun s=>?_,fun s=>rfl,fun s=>?_⟩<;>simp [a5,LV.aw,da,LV.pure,aN,ar.aw,ar.pure]
structure aG where
 p:V3
 w:Rat
instance:Inhabited aG:=⟨⟨⟨0,0,0⟩,0⟩⟩
def aY (q:aG):LV:=.agg [a5 q.p,ah q.w]
theorem bF:iZ aY 12 true:=by
 refine⟨fun s=>?_,fun s=>rfl,fun s=>?_⟩<;>simp [aY,LV.aw,da,LV.pure,aN,ar.aw,ar.pure,bl.aw,bl.pure]
theorem ud (l:List LV):(LV.agg l).isAgg=true:=rfl
theorem ajJ (c:Value):(LV.v c).isAgg=false:=rfl
theorem laE {p:Prop} (h:p:=by(simp only [List.forall_mem_cons];simp [lay,LV.aw,da,ud,ajJ,ar.aw,ck.aw,ar.isAgg,ck.isAgg])):p:=h
theorem cs {p:Prop} (h:p:=by first | exact rfl | (simp [LV.aw,da,lay,ud,ajJ,ar.aw,ck.aw,bl.aw,bF.aw,ar.isAgg,ck.isAgg,bl.isAgg,bF.isAgg];done)):p:=h
theorem pu {p:Prop} (h:p:=by first | exact rfl | (simp [LV.pure,aN,ar.pure,ck.pure,bl.pure,bF.pure, *];done)):p:=h
theorem dZ {y:LV} {n:Nat} (hy:y.aw=n) (ha:y.isAgg=true):y.at 0 n true=some y:=by
 cases y with
 | agg l=>simp only [LV.aw] at hy;simp [LV.at,hy]
 | _=>cases ha
theorem alR (a b:Rat):(ah a).put 0 (ah b)=some (ah b):=ags _ _ (by rw [ar.aw,ar.aw]) (by rw [ar.isAgg,ar.isAgg])
theorem aBc (a b:Rat × Rat):(aE a).put 0 (aE b)=some (aE b):=ags _ _ (by rw [ck.aw,ck.aw]) (by rw [ck.isAgg,ck.isAgg])
theorem aBR (s:Rat × Rat) (r:Rat):(aE s).put 0 (ah r)=some (aE (r,s.2)):=by
 rw [yN,yN];simp [LV.put,zg,da,ar.aw,ar.isAgg,alR]
theorem aIl (s:Rat × Rat) (r:Rat):(aE s).put 3 (ah r)=some (aE (s.1,r)):=by
 rw [yN,yN];simp [LV.put,zg,da,ar.aw,ar.isAgg,alR]
theorem atp {p:Prop} (h:p:=by first | exact dZ (y:=a5 _) (bl.aw _) rfl | exact dZ (y:=aY _) (bF.aw _) rfl | exact rfl | (simp only [oq,List.take_succ_cons,List.take_zero,List.take_nil,LV.at,uR,a5,aY,dZ,rh,aaQ,aqo,auQ,LV.aw,da,ar.aw,ck.aw,ar.isAgg,ck.isAgg,Nat.reduceAdd,Nat.reduceLT,Nat.reduceSub,Nat.reduceMul,Nat.add_zero,Nat.zero_add,Int.toNat_natCast,Int.reduceToNat,Int.reduceAdd,Nat.reduceEqDiff,reduceIte,and_true,true_and,and_false,false_and,if_true,if_false,Bool.false_eq_true,Bool.true_eq_false,eq_self,Nat.sub_zero,Nat.lt_irrefl,Nat.sub_self,Nat.zero_mul,Nat.zero_lt_succ]<;>exact rfl)):p:=h
theorem ptp {p:Prop} (h:p:=by first | exact rfl | (simp only [oq,List.take_succ_cons,List.take_zero,List.take_nil,LV.put,zg,a5,aY,LV.aw,da,ud,ajJ,ar.aw,ck.aw,ar.isAgg,ck.isAgg,alR,aBc,aBR,aIl,Option.map_some,Nat.reduceAdd,Nat.reduceLT,Nat.reduceSub,Nat.reduceMul,Nat.add_zero,Nat.zero_add,Int.toNat_natCast,Int.reduceToNat,Int.reduceAdd,Nat.reduceEqDiff,reduceIte,and_true,true_and,and_false,false_and,if_true,if_false,Bool.false_eq_true,Bool.true_eq_false,eq_self,Nat.sub_zero,Nat.lt_irrefl,Nat.sub_self,Nat.zero_mul,Nat.zero_lt_succ]<;>exact rfl)):p:=h
section
variable {P:Program} {H:bW} {ρ:Operand->LV} {T E:TypeId} {p x i:Operand} {n sz:Nat} {ag:Bool} {fs:List LV} {r:LV} {k:IntKind} {m:Int} {b o j:Nat}
theorem aF.ixa [u:UN P T (.array n E)] [t:TI P E sz ag] (hx:ρ x=.agg fs) (hi:ρ i=.v (.int k m)) (h0:0<=m) (hr:fs[m.toNat]?=some r) (hp:r.pure=true) (hf:fs.map lay=ay n (sz,ag)):aF P H ρ (.index T x i) r:=.aaX hx u.h t.h hf hi h0 hr hp
theorem aF.ixe [u:UN P T (.array n E)] [t:TI P E sz ag] {s2:Nat} (hx:ρ x=.aD b s2 j o) (hi:ρ i=.v (.int k m)) (h0:0<=m) (hm:m<n):aF P H ρ (.indexAddr T x i) (.aD b s2 j (o+m.toNat*sz)):=.abL hx u.h t.h hi h0 hm
theorem aF.ixb [u:UN P T (.array n E)] [t:TI P E sz ag] (hx:ρ x=.cr (.agg fs)) (hi:ρ i=.v (.int k m)) (h0:0<=m) (hr:fs[m.toNat]?=some r) (hf:fs.map lay=ay n (sz,ag)):aF P H ρ (.indexAddr T x i) (.cr r):=.abx hx u.h t.h hf hi h0 hr
theorem aF.zj {zs:List LV} {ps:Array (Nat × Operand)} [u:UN P T (.array n E)] [t:TI P E sz ag] [z:ZI P T (.agg zs)] (h:∀ z∈zs,lay z=(sz,ag)) (hp:∀ p∈ps.toList,∃ z,zs[p.1]?=some z/\lay (ρ p.2)=lay z/\ρ p.2≠.any/\∀ m,ρ p.2≠.bf m) :
  aF P H ρ (.build T ps) (.agg (kh zs (ps.toList.map fun p=>(p.1,ρ p.2)))):=.aaW u.h t.h h z.h hp
theorem aF.aFL {o0 o1 o2:Operand} {a b c:Rat} [u:UN P T (.array 3 E)] [t:TI P E 3 true] [z:ZI P T (.agg [ah 0,ah 0,ah 0])] (h0:ρ o0=ah a) (h1:ρ o1=ah b) (h2:ρ o2=ah c) :
  aF P H ρ (.build T #[(0,o0),(1,o1),(2,o2)]) (.agg [ah a,ah b,ah c]):=by
 have:=aF.zj (H:=H) (ρ:=ρ) (ps:=#[(0,o0),(1,o1),(2,o2)]) (u:=u) (t:=t) (z:=z) (by simp [lay,ar.aw,ar.isAgg]) (by
  intro p hp
  simp only [fx,jy,or_false] at hp
  rcases hp with rfl | rfl | rfl
  ·exact ajv
  ·exact⟨_,rfl,by rw [h1];simp [lay,ar.aw,ar.isAgg],by rw [h1];exact LV.fp (ar.pure _),by rw [h1];exact LV.eW (ar.pure _)⟩
  ·exact⟨_,rfl,by rw [h2];simp [lay,ar.aw,ar.isAgg],by rw [h2];exact LV.fp (ar.pure _),by rw [h2];exact LV.eW (ar.pure _)⟩)
 simpa only [kh,tF,tW,vx,h0,h1,h2] using this
theorem aF.aIL {o0 o1 o2 o3:Operand} {a b c d:Rat} [u:UN P T (.array 4 E)] [t:TI P E 3 true] [z:ZI P T (.agg [ah 0,ah 0,ah 0,ah 0])] (h0:ρ o0=ah a) (h1:ρ o1=ah b) (h2:ρ o2=ah c) (h3:ρ o3=ah d) :
  aF P H ρ (.build T #[(0,o0),(1,o1),(2,o2),(3,o3)]) (.agg [ah a,ah b,ah c,ah d]):=by
 have:=aF.zj (H:=H) (ρ:=ρ) (ps:=#[(0,o0),(1,o1),(2,o2),(3,o3)]) (u:=u) (t:=t) (z:=z) (by simp [lay,ar.aw,ar.isAgg]) (by
  intro p hp
  simp only [fx,jy,or_false] at hp
  rcases hp with rfl | rfl | rfl | rfl
  ·exact ajv
  ·exact⟨_,rfl,by rw [h1];simp [lay,ar.aw,ar.isAgg],by rw [h1];exact LV.fp (ar.pure _),by rw [h1];exact LV.eW (ar.pure _)⟩
  ·exact⟨_,rfl,by rw [h2];simp [lay,ar.aw,ar.isAgg],by rw [h2];exact LV.fp (ar.pure _),by rw [h2];exact LV.eW (ar.pure _)⟩
  ·exact⟨_,rfl,by rw [h3];simp [lay,ar.aw,ar.isAgg],by rw [h3];exact LV.fp (ar.pure _),by rw [h3];exact LV.eW (ar.pure _)⟩)
 simpa only [kh,tF,tW,vx,h0,h1,h2,h3] using this
theorem aF.aHy {o0 o1:Operand} {a b:Rat} [u:UN P T (.array 2 E)] [t:TI P E 3 true] [z:ZI P T (.agg [ah 0,ah 0])] (h0:ρ o0=ah a) (h1:ρ o1=ah b):aF P H ρ (.build T #[(0,o0),(1,o1)]) (.agg [ah a,ah b]):=by
 have:=aF.zj (H:=H) (ρ:=ρ) (ps:=#[(0,o0),(1,o1)]) (u:=u) (t:=t) (z:=z) (by simp [lay,ar.aw,ar.isAgg]) (by
  intro p hp
  simp only [fx,jy,or_false] at hp
  rcases hp with rfl | rfl
  ·exact ajv
  ·exact⟨_,rfl,by rw [h1];simp [lay,ar.aw,ar.isAgg],by rw [h1];exact LV.fp (ar.pure _),by rw [h1];exact LV.eW (ar.pure _)⟩)
 simpa only [kh,tF,tW,vx,h0,h1] using this
theorem aF.aBI {o0 o1 o2:Operand} {a b c d e f:Rat} [u:UN P T (.array 3 E)] [t:TI P E 6 true] [z:ZI P T (.agg [.agg [ah 0,ah 0],.agg [ah 0,ah 0],.agg [ah 0,ah 0]])]
  (h0:ρ o0=.agg [ah a,ah b]) (h1:ρ o1=.agg [ah c,ah d]) (h2:ρ o2=.agg [ah e,ah f]):aF P H ρ (.build T #[(0,o0),(1,o1),(2,o2)]) (.agg [.agg [ah a,ah b],.agg [ah c,ah d],.agg [ah e,ah f]]):=by
 have:=aF.zj (H:=H) (ρ:=ρ) (ps:=#[(0,o0),(1,o1),(2,o2)]) (u:=u) (t:=t) (z:=z) (by simp [lay,LV.aw,da,ar.aw,ud]) (by
  intro p hp
  simp only [fx,jy,or_false] at hp
  rcases hp with rfl | rfl | rfl
  ·exact⟨_,rfl,by rw [h0];simp [lay,LV.aw,da,ar.aw,ud],by rw [h0];exact(fun h=>LV.noConfusion h),by rw [h0];exact(fun _ h=>LV.noConfusion h)⟩
  ·exact⟨_,rfl,by rw [h1];simp [lay,LV.aw,da,ar.aw,ud],by rw [h1];exact(fun h=>LV.noConfusion h),by rw [h1];exact(fun _ h=>LV.noConfusion h)⟩
  ·exact⟨_,rfl,by rw [h2];simp [lay,LV.aw,da,ar.aw,ud],by rw [h2];exact(fun h=>LV.noConfusion h),by rw [h2];exact(fun _ h=>LV.noConfusion h)⟩)
 simpa only [kh,tF,tW,vx,h0,h1,h2] using this
theorem aF.ldp {vals:List LV} {y:LV} {mt:Bool} [t:TI P T n ag] (hp:ρ p=.aD b sz j o) (hb:H b=some ⟨sz,vals,mt⟩) (hi:vals[j]?=some y) (hy:y.aw=sz) (hr:y.at o n ag=some r):aF P H ρ (.load T p) r:=.gj hp hb rfl hi hy hr t.h
theorem aF.tE {c:LV} [t:TI P T n ag] (hp:ρ p=.cr c) (hc:c.pure=true) (hs:c.aw=n) (ha:c.isAgg=ag):aF P H ρ (.load T p) c:=.z5 hp (by rw [hs,ha];exact t.h) hc
theorem g7.jP {L:St} {vals:List LV} {y y' v:LV} {dst:Option Tmp} [t:TI P T n ag] (hp:L.ev p=.aD b sz j o) (hb:L.heap b=some ⟨sz,vals,true⟩) (hi:vals[j]?=some y) (hx:L.ev x=v) (hy:y.aw=sz) (hv:v.aw=n) (hva:v.isAgg=ag) (nF:y.put o v=some y') (aX:v≠.any/\∀ m,v≠.bf m) :
  g7 P L dst (.store T p x) ((L.bO b (some ⟨sz,vals.set j y',true⟩)).put dst .any):=.store hp hb rfl rfl hi hy (by rw [hx];exact nF) (by rw [hx,hv,hva];exact t.h) (by rw [hx];exact aX)
end
theorem nx_ {z x:LV} {zs:List LV} {k:Nat} (h1:zs[k]?=some z) (h2:lay x=lay z) (h3:x≠.any/\∀ m,x≠.bf m):∃ z,zs[k]?=some z/\lay x=lay z/\x≠.any/\∀ m,x≠.bf m:=⟨z,h1,h2,h3⟩
theorem ahG {p:Prop} (h:p:=by(simp only [List.forall_mem_cons];repeat (first | exact(fun _ h=>by cases h) | refine⟨nx_ rfl cs nK,?_⟩))):p:=h
structure jg (q:Prop):Prop where
 h:q
theorem gg {P:Program} {H:bW} {ρ:Operand->LV} {T:TypeId} {p:Operand} {x:LV} (h:aF P H ρ (.load T p) x:=by first | (apply aF.ldB;exact rfl) | exact .aGO rfl rfl rfl TI.h | exact .aIS rfl rfl rfl TI.h | (apply aF.ldE;exact rfl;exact rfl;exact om) | exact .aE2 rfl rfl rfl TI.h | exact .aCI rfl rfl rfl TI.h | exact .aHq rfl rfl rfl TI.h | exact .aHP rfl rfl rfl TI.h | exact .aII rfl rfl rfl TI.h | exact .gj rfl rfl rfl rfl rfl rfl TI.h | (apply aF.ldp;exact rfl;exact rfl;exact rfl;exact cs;exact atp) | (apply aF.tE;exact rfl;exact pu;exact cs;exact cs)):aF P H ρ (.load T p) x:=h
section
variable {P:Program} {H:bW} {ρ:Operand->LV} {T U:TypeId} {x y:Operand}
theorem aF.aI {a b:Int} (hx:ρ x=.v (.int .i64 a)) (hy:ρ y=.v (.int .i64 b)) (h1:-9223372036854775808<=a+b) (h2:a+b<=9223372036854775807):aF P H ρ (.binOp .add T x y U) (.v (.int .i64 (a+b))):=.bin hx hy (sW h1 h2)
theorem aF.sI {a b:Int} (hx:ρ x=.v (.int .i64 a)) (hy:ρ y=.v (.int .i64 b)) (h1:-9223372036854775808<=a-b) (h2:a-b<=9223372036854775807):aF P H ρ (.binOp .sub T x y U) (.v (.int .i64 (a-b))):=.bin hx hy (aaH h1 h2)
theorem aF.mI {a b:Int} (hx:ρ x=.v (.int .i64 a)) (hy:ρ y=.v (.int .i64 b)) (h1:-9223372036854775808<=a*b) (h2:a*b<=9223372036854775807):aF P H ρ (.binOp .mul T x y U) (.v (.int .i64 (a*b))):=.bin hx hy (air h1 h2)
theorem aF.aU {a b:Nat} (hx:ρ x=.v (.int .u64 (a:Nat))) (hy:ρ y=.v (.int .u64 (b:Nat))) (h:a+b<18446744073709551616):aF P H ρ (.binOp .add T x y U) (.v (.int .u64 ((a+b:Nat):Int))):=.bin hx hy (asK h)
theorem aF.mU {a b:Nat} (hx:ρ x=.v (.int .u64 (a:Nat))) (hy:ρ y=.v (.int .u64 (b:Nat))) (h:a*b<18446744073709551616):aF P H ρ (.binOp .mul T x y U) (.v (.int .u64 ((a*b:Nat):Int))):=.bin hx hy (acY h)
theorem aF.sU {a b:Nat} (hx:ρ x=.v (.int .u64 (a:Nat))) (hy:ρ y=.v (.int .u64 (b:Nat))) (h:b<=a) (h1:a<18446744073709551616):aF P H ρ (.binOp .sub T x y U) (.v (.int .u64 ((a-b:Nat):Int))):=.bin hx hy (atm h h1)
theorem aF.qU {a b:Nat} (hx:ρ x=.v (.int .u64 (a:Nat))) (hy:ρ y=.v (.int .u64 (b:Nat))) (h:0<b) (h1:a<18446744073709551616):aF P H ρ (.binOp .quo T x y U) (.v (.int .u64 ((a/b:Nat):Int))):=.bin hx hy (ai6 h h1)
theorem aF.rU {a b:Nat} (hx:ρ x=.v (.int .u64 (a:Nat))) (hy:ρ y=.v (.int .u64 (b:Nat))) (h:0<b):aF P H ρ (.binOp .rem T x y U) (.v (.int .u64 ((a % b:Nat):Int))):=.bin hx hy (amk h)
theorem aF.oU {a b:Nat} (hx:ρ x=.v (.int .u64 ((a*4294967296:Nat):Int))) (hy:ρ y=.v (.int .u64 (b:Nat))) (h:b<4294967296) (h1:a<4294967296):aF P H ρ (.binOp .or T x y U) (.v (.int .u64 ((a*4294967296+b:Nat):Int))):=.bin hx hy (orU h h1)
theorem aF.hl {a:Nat} {k:IntKind} (hx:ρ x=.v (.int .u64 (a:Nat))) (hy:ρ y=.v (.int k 32)) (h:a*4294967296<18446744073709551616):aF P H ρ (.binOp .shl T x y U) (.v (.int .u64 ((a*4294967296:Nat):Int))):=.sh hx hy (ae3 h)
theorem aF.hr {a:Nat} {k:IntKind} (hx:ρ x=.v (.int .u64 (a:Nat))) (hy:ρ y=.v (.int k 32)):aF P H ρ (.binOp .shr T x y U) (.v (.int .u64 ((a/4294967296:Nat):Int))):=.sh hx hy aI3
theorem aF.aDV {a:Nat} {k:IntKind} (hx:ρ x=.v (.int .u64 (a:Nat))) (hy:ρ y=.v (.int k 63)):aF P H ρ (.binOp .shr T x y U) (.v (.int .u64 ((a/9223372036854775808:Nat):Int))):=.sh hx hy aG4
end
theorem biA {P:Program} {H:bW} {ρ:Operand->LV} {o:BinOp} {T U:TypeId} {p y:Operand} {x:LV} (h:aF P H ρ (.binOp o T p y U) x:=by first | (apply aF.cmp;exact rfl;exact rfl;exact rfl;exact rfl) | (apply aF.aI;exact rfl;exact rfl;exact om;exact om) | (apply aF.sI;exact rfl;exact rfl;exact om;exact om) | (apply aF.mI;exact rfl;exact rfl;exact om;exact om) | (apply aF.aU;exact rfl;exact rfl;exact om) | (apply aF.mU;exact rfl;exact rfl;exact om) | (apply aF.sU;exact rfl;exact rfl;exact om;exact om) | (apply aF.qU;exact rfl;exact rfl;exact om;exact om) | (apply aF.rU;exact rfl;exact rfl;exact om) | (apply aF.oU;exact rfl;exact rfl;exact om;exact om) | (apply aF.hl;exact rfl;exact rfl;exact om) | (apply aF.hr;exact rfl;exact rfl) | (apply aF.aDV;exact rfl;exact rfl) | (apply aF.beq;exact rfl;exact rfl;exact UN.h) | (apply aF.bne;exact rfl;exact rfl;exact UN.h)):aF P H ρ (.binOp o T p y U) x:=h
theorem wV {P:Program} {H:bW} {ρ:Operand->LV} {b:Builtin} {xs:Array Operand} {as:Array TypeId} {x:LV} (h:aF P H ρ (.call ⟨.builtin b,xs,as⟩) x:=by first | exact .azr rfl rfl UN.h | exact .aaj rfl rfl UN.h | exact .aa8 rfl rfl UN.h | exact .abf rfl rfl UN.h | exact .aes rfl rfl UN.h | exact .aaO rfl rfl UN.h | exact .min2 rfl rfl | exact .max2 rfl rfl):aF P H ρ (.call ⟨.builtin b,xs,as⟩) x:=h
theorem srA {P:Program} {L L':St} {dst:Option Tmp} {T:TypeId} {p x:Operand} (h:g7 P L dst (.store T p x) L':=by first | exact .aCg rfl rfl rfl rfl TI.h | exact .aAv rfl rfl rfl TI.h | exact .aI7 rfl rfl rfl TI.h | (apply g7.stE;exact rfl;exact rfl;exact rfl;exact om) | exact .store rfl rfl rfl rfl rfl rfl rfl TI.h nK | (apply g7.jP;exact rfl;exact rfl;exact rfl;(first | exact(rfl:_=ah _) | exact(rfl:_=a5 _) | exact(rfl:_=aY _) | exact(rfl:_=aE _) | exact(rfl:_=LV.agg _) | exact rfl);exact cs;exact cs;exact cs;exact ptp;exact nK)):g7 P L dst (.store T p x) L':=h
theorem cvA {P:Program} {H:bW} {ρ:Operand->LV} {S D:TypeId} {p:Operand} {x:LV} (h:aF P H ρ (.convert S D p) x:=by first | exact .azh UN.h UN.h rfl | (apply aF.ajl;exact UN.h;exact UN.h;exact rfl;exact om) | (apply aF.cvI;exact UN.h;exact UN.h;exact rfl;exact om;exact om) | exact .conv UN.h UN.h rfl):aF P H ρ (.convert S D p) x:=h
theorem ak3 {P:Program} {T:TypeId} {l:List (Nat × Bool)} {fs:List LV} (h:mo P T l) (e:fs.map lay=l):mo P T (fs.map lay):=e ▸ h
theorem awf {P:Program} {H:bW} {ρ:Operand->LV} {T:TypeId} {p i:Operand} {x:LV} (h:aF P H ρ (.index T p i) x:=by(apply aF.ixa;exact rfl;exact rfl;exact om;exact rfl;exact pu;exact cs)):aF P H ρ (.index T p i) x:=h
theorem jO {P:Program} {H:bW} {ρ:Operand->LV} {T:TypeId} {p:Operand} {k:Nat} {x:LV} (h:aF P H ρ (.fieldAddr T p k) x:=by first | exact .abp rfl SI.h aj | exact .zV rfl SI.h rfl | (refine .zV rfl (ak3 SI.h cs) rfl)):aF P H ρ (.fieldAddr T p k) x:=h
theorem xP {P:Program} {H:bW} {ρ:Operand->LV} {T:TypeId} {p i:Operand} {x:LV} (h:aF P H ρ (.indexAddr T p i) x:=by first | (apply aF.ixL;exact rfl;exact rfl;exact om;exact om) | (apply aF.ixR;exact rfl;exact rfl;exact om;exact om) | (apply aF.ixe;exact rfl;exact rfl;exact om;exact om) | (apply aF.ixb;exact rfl;exact rfl;exact om;exact rfl;exact cs)):aF P H ρ (.indexAddr T p i) x:=h
section
variable {P:Program} {dr:Bool} {ops:Array Oper} {rest:List Oper} {L L':St} {K:St->Prop} {dst:Option Tmp} {d:Nat} {ty:TypeId} {pos:String} {af:Array Edge} {j:Nat} {w:Bool} {r:LV} {bk:bg}
theorem azu {T:TypeId} {p:Operand} (h:aF P L.heap L.ev (.load T p) r) (kk:opsL P dr ops rest (L.put dst r) K):opsL P dr ops (⟨dst,(.load T p),ty,pos,af,none⟩ :: rest) L K:=ak rfl h kk
theorem aDv {T:TypeId} {p:Operand} (hg:ef ops L ⟨dst,(.load T p),ty,pos,af,some (j,w)⟩ true) (h:aF P L.heap L.ev (.load T p) r) (kk:opsL P dr ops rest (L.put dst r) K):opsL P dr ops (⟨dst,(.load T p),ty,pos,af,some (j,w)⟩ :: rest) L K:=ak hg h kk
theorem aIa {o:BinOp} {T U:TypeId} {p y:Operand} (h:aF P L.heap L.ev (.binOp o T p y U) r) (kk:opsL P dr ops rest (L.put dst r) K):opsL P dr ops (⟨dst,(.binOp o T p y U),ty,pos,af,none⟩ :: rest) L K:=ak rfl h kk
theorem az5 {o:BinOp} {T U:TypeId} {p y:Operand} (hg:ef ops L ⟨dst,(.binOp o T p y U),ty,pos,af,some (j,w)⟩ true) (h:aF P L.heap L.ev (.binOp o T p y U) r) (kk:opsL P dr ops rest (L.put dst r) K):opsL P dr ops (⟨dst,(.binOp o T p y U),ty,pos,af,some (j,w)⟩ :: rest) L K:=ak hg h kk
theorem aDU {b:Builtin} {xs:Array Operand} {as:Array TypeId} (h:aF P L.heap L.ev (.call ⟨.builtin b,xs,as⟩) r) (kk:opsL P dr ops rest (L.put dst r) K):opsL P dr ops (⟨dst,(.call ⟨.builtin b,xs,as⟩),ty,pos,af,none⟩ :: rest) L K:=ak rfl h kk
theorem aJv {b:Builtin} {xs:Array Operand} {as:Array TypeId} (hg:ef ops L ⟨dst,(.call ⟨.builtin b,xs,as⟩),ty,pos,af,some (j,w)⟩ true) (h:aF P L.heap L.ev (.call ⟨.builtin b,xs,as⟩) r) (kk:opsL P dr ops rest (L.put dst r) K):opsL P dr ops (⟨dst,(.call ⟨.builtin b,xs,as⟩),ty,pos,af,some (j,w)⟩ :: rest) L K:=ak hg h kk
theorem aDZ {T:TypeId} {p:Operand} {k:Nat} (h:aF P L.heap L.ev (.fieldAddr T p k) r) (kk:opsL P dr ops rest (L.put dst r) K):opsL P dr ops (⟨dst,(.fieldAddr T p k),ty,pos,af,none⟩ :: rest) L K:=ak rfl h kk
theorem aJs {T:TypeId} {p:Operand} {k:Nat} (hg:ef ops L ⟨dst,(.fieldAddr T p k),ty,pos,af,some (j,w)⟩ true) (h:aF P L.heap L.ev (.fieldAddr T p k) r) (kk:opsL P dr ops rest (L.put dst r) K):opsL P dr ops (⟨dst,(.fieldAddr T p k),ty,pos,af,some (j,w)⟩ :: rest) L K:=ak hg h kk
theorem aGl {T:TypeId} {p y:Operand} (h:aF P L.heap L.ev (.index T p y) r) (kk:opsL P dr ops rest (L.put dst r) K):opsL P dr ops (⟨dst,(.index T p y),ty,pos,af,none⟩ :: rest) L K:=ak rfl h kk
theorem azW {T:TypeId} {p y:Operand} (hg:ef ops L ⟨dst,(.index T p y),ty,pos,af,some (j,w)⟩ true) (h:aF P L.heap L.ev (.index T p y) r) (kk:opsL P dr ops rest (L.put dst r) K):opsL P dr ops (⟨dst,(.index T p y),ty,pos,af,some (j,w)⟩ :: rest) L K:=ak hg h kk
theorem aE4 {T:TypeId} {p y:Operand} (h:aF P L.heap L.ev (.indexAddr T p y) r) (kk:opsL P dr ops rest (L.put dst r) K):opsL P dr ops (⟨dst,(.indexAddr T p y),ty,pos,af,none⟩ :: rest) L K:=ak rfl h kk
theorem aH9 {T:TypeId} {p y:Operand} (hg:ef ops L ⟨dst,(.indexAddr T p y),ty,pos,af,some (j,w)⟩ true) (h:aF P L.heap L.ev (.indexAddr T p y) r) (kk:opsL P dr ops rest (L.put dst r) K):opsL P dr ops (⟨dst,(.indexAddr T p y),ty,pos,af,some (j,w)⟩ :: rest) L K:=ak hg h kk
theorem aAz {p:Operand} {k:Nat} (h:aF P L.heap L.ev (.extract p k) r) (kk:opsL P dr ops rest (L.put dst r) K):opsL P dr ops (⟨dst,(.extract p k),ty,pos,af,none⟩ :: rest) L K:=ak rfl h kk
theorem aI2 {p:Operand} {k:Nat} (hg:ef ops L ⟨dst,(.extract p k),ty,pos,af,some (j,w)⟩ true) (h:aF P L.heap L.ev (.extract p k) r) (kk:opsL P dr ops rest (L.put dst r) K):opsL P dr ops (⟨dst,(.extract p k),ty,pos,af,some (j,w)⟩ :: rest) L K:=ak hg h kk
theorem azT {p y z:Operand} (h:aF P L.heap L.ev (.pick p y z) r) (kk:opsL P dr ops rest (L.put dst r) K):opsL P dr ops (⟨dst,(.pick p y z),ty,pos,af,none⟩ :: rest) L K:=ak rfl h kk
theorem aBp {p y z:Operand} (hg:ef ops L ⟨dst,(.pick p y z),ty,pos,af,some (j,w)⟩ true) (h:aF P L.heap L.ev (.pick p y z) r) (kk:opsL P dr ops rest (L.put dst r) K):opsL P dr ops (⟨dst,(.pick p y z),ty,pos,af,some (j,w)⟩ :: rest) L K:=ak hg h kk
theorem aEB {T U:TypeId} {p:Operand} (h:aF P L.heap L.ev (.convert T U p) r) (kk:opsL P dr ops rest (L.put dst r) K):opsL P dr ops (⟨dst,(.convert T U p),ty,pos,af,none⟩ :: rest) L K:=ak rfl h kk
theorem aCw {T U:TypeId} {p:Operand} (hg:ef ops L ⟨dst,(.convert T U p),ty,pos,af,some (j,w)⟩ true) (h:aF P L.heap L.ev (.convert T U p) r) (kk:opsL P dr ops rest (L.put dst r) K):opsL P dr ops (⟨dst,(.convert T U p),ty,pos,af,some (j,w)⟩ :: rest) L K:=ak hg h kk
theorem aDp {u:UnOp} {T:TypeId} {p:Operand} (h:aF P L.heap L.ev (.unOp u T p) r) (kk:opsL P dr ops rest (L.put dst r) K):opsL P dr ops (⟨dst,(.unOp u T p),ty,pos,af,none⟩ :: rest) L K:=ak rfl h kk
theorem azt {u:UnOp} {T:TypeId} {p:Operand} (hg:ef ops L ⟨dst,(.unOp u T p),ty,pos,af,some (j,w)⟩ true) (h:aF P L.heap L.ev (.unOp u T p) r) (kk:opsL P dr ops rest (L.put dst r) K):opsL P dr ops (⟨dst,(.unOp u T p),ty,pos,af,some (j,w)⟩ :: rest) L K:=ak hg h kk
theorem aF6 {T:TypeId} {p:Operand} {k:Nat} (h:aF P L.heap L.ev (.field T p k) r) (kk:opsL P dr ops rest (L.put dst r) K):opsL P dr ops (⟨dst,(.field T p k),ty,pos,af,none⟩ :: rest) L K:=ak rfl h kk
theorem aDn {T:TypeId} {p:Operand} {k:Nat} (hg:ef ops L ⟨dst,(.field T p k),ty,pos,af,some (j,w)⟩ true) (h:aF P L.heap L.ev (.field T p k) r) (kk:opsL P dr ops rest (L.put dst r) K):opsL P dr ops (⟨dst,(.field T p k),ty,pos,af,some (j,w)⟩ :: rest) L K:=ak hg h kk
theorem aCz {p:Operand} (h:aF P L.heap L.ev (.nilCheck p) r) (kk:opsL P dr ops rest (L.put dst r) K):opsL P dr ops (⟨dst,(.nilCheck p),ty,pos,af,none⟩ :: rest) L K:=ak rfl h kk
theorem aCJ {p:Operand} (hg:ef ops L ⟨dst,(.nilCheck p),ty,pos,af,some (j,w)⟩ true) (h:aF P L.heap L.ev (.nilCheck p) r) (kk:opsL P dr ops rest (L.put dst r) K):opsL P dr ops (⟨dst,(.nilCheck p),ty,pos,af,some (j,w)⟩ :: rest) L K:=ak hg h kk
theorem rG {T:TypeId} {ps:Array (Nat × Operand)} (h:aF P L.heap L.ev (.build T ps) r) (kk:opsL P dr ops rest (L.put dst r) K):opsL P dr ops (⟨dst,(.build T ps),ty,pos,af,none⟩ :: rest) L K:=ak rfl h kk
theorem aHB {T:TypeId} {ps:Array (Nat × Operand)} (hg:ef ops L ⟨dst,(.build T ps),ty,pos,af,some (j,w)⟩ true) (h:aF P L.heap L.ev (.build T ps) r) (kk:opsL P dr ops rest (L.put dst r) K):opsL P dr ops (⟨dst,(.build T ps),ty,pos,af,some (j,w)⟩ :: rest) L K:=ak hg h kk
theorem aHj {p:Operand} (hg:ef ops L ⟨dst,(.move p),ty,pos,af,some (j,w)⟩ true) (h:aF P L.heap L.ev (.move p) r) (kk:opsL P dr ops rest (L.put dst r) K):opsL P dr ops (⟨dst,(.move p),ty,pos,af,some (j,w)⟩ :: rest) L K:=ak hg h kk
theorem aJy {p:Operand} (hg:ef ops L ⟨dst,(.assign p),ty,pos,af,some (j,w)⟩ true) (h:aF P L.heap L.ev (.assign p) r) (kk:opsL P dr ops rest (L.put dst r) K):opsL P dr ops (⟨dst,(.assign p),ty,pos,af,some (j,w)⟩ :: rest) L K:=ak hg h kk
theorem aD5 {T:TypeId} {p:Operand} (hd:L.heap d=none) (h:dE P L.ev d (.box T p) r bk) (kk:opsL P dr ops rest ((L.bO d (some bk)).put (some d) r) K):opsL P dr ops (⟨some d,(.box T p),ty,pos,af,none⟩ :: rest) L K:=fL rfl hd h kk
theorem aCK {T:TypeId} {p:Operand} (hg:ef ops L ⟨some d,(.box T p),ty,pos,af,some (j,w)⟩ true) (hd:L.heap d=none) (h:dE P L.ev d (.box T p) r bk) (kk:opsL P dr ops rest ((L.bO d (some bk)).put (some d) r) K):opsL P dr ops (⟨some d,(.box T p),ty,pos,af,some (j,w)⟩ :: rest) L K:=fL hg hd h kk
theorem aHr {T:TypeId} (hd:L.heap d=none) (h:dE P L.ev d (.alloc T) r bk) (kk:opsL P dr ops rest ((L.bO d (some bk)).put (some d) r) K):opsL P dr ops (⟨some d,(.alloc T),ty,pos,af,none⟩ :: rest) L K:=fL rfl hd h kk
theorem aAh {T:TypeId} (hg:ef ops L ⟨some d,(.alloc T),ty,pos,af,some (j,w)⟩ true) (hd:L.heap d=none) (h:dE P L.ev d (.alloc T) r bk) (kk:opsL P dr ops rest ((L.bO d (some bk)).put (some d) r) K):opsL P dr ops (⟨some d,(.alloc T),ty,pos,af,some (j,w)⟩ :: rest) L K:=fL hg hd h kk
theorem aIn {T:TypeId} {n:Nat} {ps:Array (Nat × Operand)} (hd:L.heap d=none) (h:dE P L.ev d (.buildSlice T n ps) r bk) (kk:opsL P dr ops rest ((L.bO d (some bk)).put (some d) r) K):opsL P dr ops (⟨some d,(.buildSlice T n ps),ty,pos,af,none⟩ :: rest) L K:=fL rfl hd h kk
theorem aGS {T:TypeId} {n:Nat} {ps:Array (Nat × Operand)} (hg:ef ops L ⟨some d,(.buildSlice T n ps),ty,pos,af,some (j,w)⟩ true) (hd:L.heap d=none) (h:dE P L.ev d (.buildSlice T n ps) r bk) (kk:opsL P dr ops rest ((L.bO d (some bk)).put (some d) r) K):opsL P dr ops (⟨some d,(.buildSlice T n ps),ty,pos,af,some (j,w)⟩ :: rest) L K:=fL hg hd h kk
theorem aBV {T:TypeId} {p y:Operand} (h:g7 P L dst (.store T p y) L') (kk:opsL P dr ops rest L' K):opsL P dr ops (⟨dst,.store T p y,ty,pos,af,none⟩ :: rest) L K:=bS rfl h kk
theorem aJ8 {T:TypeId} {p y:Operand} (hg:ef ops L ⟨dst,.store T p y,ty,pos,af,some (j,w)⟩ true) (h:g7 P L dst (.store T p y) L') (kk:opsL P dr ops rest L' K):opsL P dr ops (⟨dst,.store T p y,ty,pos,af,some (j,w)⟩ :: rest) L K:=bS hg h kk
theorem aHg {op:Op} (hg:ef ops L ⟨dst,op,ty,pos,af,some (j,w)⟩ false) (kk:opsL P dr ops rest (L.put dst (.bf [])) K):opsL P dr ops (⟨dst,op,ty,pos,af,some (j,w)⟩ :: rest) L K:=ze hg kk
end
theorem pM {p:Prop} (h:p:=by first | exact aP (v:=true) rfl rfl vG rfl | exact aP (v:=false) rfl rfl vG rfl):p:=h
theorem zGf {p:Prop} (h:p:=by first | exact aP (v:=true) rfl rfl vG rfl | exact aP (v:=false) rfl rfl vG rfl | exact aEn rfl rfl):p:=h
theorem jv {p q:Prop} (k:q) (h:jg q->p:=by intro kk;first | (apply aFU;exact kk.h) | (apply aI0;exact kk.h) | (apply mv;exact kk.h) | (apply asg;exact kk.h) | (apply uf;exact nf;exact kk.h) | (apply aFS;exact kk.h) | (apply azu;exact gg;exact kk.h) | (apply aIa;exact biA;exact kk.h) | (apply aDU;exact wV;exact kk.h) | (apply aDZ;exact jO;exact kk.h) | (apply aE4;exact xP;exact kk.h) | (apply aGl;exact awf;exact kk.h) | (apply aAz;exact .extract rfl rfl nt0;exact kk.h) | (apply aBV;exact srA;exact kk.h) | (apply aD5;exact rfl;(first | (apply dE.zM;exact rfl) | exact .box nK);exact kk.h) | (apply aHr;exact rfl;(first | exact .alE | exact .alloc ZI.h);exact kk.h) | (apply azT;(first | exact .ou rfl vG | exact .ox rfl vG);exact kk.h) | (apply aEB;exact cvA;exact kk.h) | (apply aDp;(first | exact .not rfl | exact .neg rfl);exact kk.h) | (apply aF6;(first | exact .field rfl SI.h rfl rfl | exact .field rfl (ak3 SI.h cs) rfl pu);exact kk.h) | (apply aIn;exact rfl;(first | (apply dE.l1;exact rfl;decide;decide) | exact .l0 | (apply dE.l2;exact rfl;exact rfl;decide;decide) | (apply dE.l3;exact rfl;exact rfl;exact rfl;decide;decide) | (apply dE.l4;exact rfl;exact rfl;exact rfl;exact rfl;decide;decide));exact kk.h) | (apply rG;(first | exact .aFL rfl rfl rfl | exact .aIL rfl rfl rfl rfl | exact .aHy rfl rfl | exact .aBI rfl rfl rfl | exact .axT SI.h ZI.h rfl rfl | exact .bd rfl nes | exact .bd cs ahG | exact .zj laE ahG);exact kk.h) | (apply aCz;(first | exact .afx rfl | exact .ae6 rfl);exact kk.h) | (apply aDl;exact kk.h) | (apply aA2;exact kk.h) | (apply aGF;exact kk.h) | (apply aGL;exact kk.h) | (apply aAq;exact kk.h) | (apply cu;exact rfl;exact vG;exact kk.h) | (apply ff;exact rfl;exact vG;exact kk.h) | (apply aFP;exact kk.h) | (apply aKo;exact kk.h) | (apply aBa;exact kk.h) | (apply aBE;exact kk.h) | (apply aEl;decide;exact kk.h) | (apply aHg;exact zGf;exact kk.h) | (apply aHj;exact pM;(exact .move _);exact kk.h) | (apply aDv;exact pM;(exact gg);exact kk.h) | (apply az5;exact pM;(exact biA);exact kk.h) | (apply aJv;exact pM;(exact wV);exact kk.h) | (apply aJs;exact pM;(exact jO);exact kk.h) | (apply aH9;exact pM;(exact xP);exact kk.h) | (apply azW;exact pM;(exact awf);exact kk.h) | (apply aI2;exact pM;(exact .extract rfl rfl nt0);exact kk.h) | (apply aJ8;exact pM;exact srA;exact kk.h) | (apply aJy;exact pM;(exact .assign _);exact kk.h) | (apply aCK;exact pM;exact rfl;(first | (apply dE.zM;exact rfl) | exact .box nK);exact kk.h) | (apply aAh;exact pM;exact rfl;(first | exact .alE | exact .alloc ZI.h);exact kk.h) | (apply aBp;exact pM;(first | exact .ou rfl vG | exact .ox rfl vG);exact kk.h) | (apply aCw;exact pM;(exact cvA);exact kk.h) | (apply azt;exact pM;(first | exact .not rfl | exact .neg rfl);exact kk.h) | (apply aDn;exact pM;(first | exact .field rfl SI.h rfl rfl | exact .field rfl (ak3 SI.h cs) rfl pu);exact kk.h) | (apply aGS;exact pM;exact rfl;(first | (apply dE.l1;exact rfl;decide;decide) | exact .l0 | (apply dE.l2;exact rfl;exact rfl;decide;decide) | (apply dE.l3;exact rfl;exact rfl;exact rfl;decide;decide) | (apply dE.l4;exact rfl;exact rfl;exact rfl;exact rfl;decide;decide));exact kk.h) | (apply aHB;exact pM;(first | exact .axT SI.h ZI.h rfl rfl | exact .bd rfl nes | exact .bd cs ahG | exact .zj laE ahG);exact kk.h) | (apply aCJ;exact pM;(first | exact .afx rfl | exact .ae6 rfl);exact kk.h)):p:=h ⟨k⟩
theorem av {p q:Prop} (k:q) (h:jg q->p:=by intro hq;(iterate 1 refine jv ?_);exact hq.h):p:=h ⟨k⟩
theorem aT {p q:Prop} (k:q) (h:jg q->p:=by intro hq;(iterate 2 refine jv ?_);exact hq.h):p:=h ⟨k⟩
theorem aQ {p q:Prop} (k:q) (h:jg q->p:=by intro hq;(iterate 3 refine jv ?_);exact hq.h):p:=h ⟨k⟩
theorem aA {p q:Prop} (k:q) (h:jg q->p:=by intro hq;(iterate 4 refine jv ?_);exact hq.h):p:=h ⟨k⟩
theorem bc {p q:Prop} (k:q) (h:jg q->p:=by intro hq;(iterate 5 refine jv ?_);exact hq.h):p:=h ⟨k⟩
theorem aC {p q:Prop} (k:q) (h:jg q->p:=by intro hq;(iterate 6 refine jv ?_);exact hq.h):p:=h ⟨k⟩
theorem aZ {p q:Prop} (k:q) (h:jg q->p:=by intro hq;(iterate 7 refine jv ?_);exact hq.h):p:=h ⟨k⟩
theorem bo {p q:Prop} (k:q) (h:jg q->p:=by intro hq;(iterate 8 refine jv ?_);exact hq.h):p:=h ⟨k⟩
theorem bD {p q:Prop} (k:q) (h:jg q->p:=by intro hq;(iterate 9 refine jv ?_);exact hq.h):p:=h ⟨k⟩
theorem bM {p q:Prop} (k:q) (h:jg q->p:=by intro hq;(iterate 10 refine jv ?_);exact hq.h):p:=h ⟨k⟩
theorem bC {p q:Prop} (k:q) (h:jg q->p:=by intro hq;(iterate 11 refine jv ?_);exact hq.h):p:=h ⟨k⟩
theorem bG {p q:Prop} (k:q) (h:jg q->p:=by intro hq;(iterate 12 refine jv ?_);exact hq.h):p:=h ⟨k⟩
theorem dH {p q:Prop} (k:q) (h:jg q->p:=by intro hq;(iterate 13 refine jv ?_);exact hq.h):p:=h ⟨k⟩
theorem dM {p q:Prop} (k:q) (h:jg q->p:=by intro hq;(iterate 14 refine jv ?_);exact hq.h):p:=h ⟨k⟩
theorem iE {p q:Prop} (k:q) (h:jg q->p:=by intro hq;(iterate 15 refine jv ?_);exact hq.h):p:=h ⟨k⟩
theorem oF {p q:Prop} (k:q) (h:jg q->p:=by intro hq;(iterate 16 refine jv ?_);exact hq.h):p:=h ⟨k⟩
theorem jI {p q:Prop} (k:q) (h:jg q->p:=by intro hq;(iterate 17 refine jv ?_);exact hq.h):p:=h ⟨k⟩
theorem qF {p q:Prop} (k:q) (h:jg q->p:=by intro hq;(iterate 18 refine jv ?_);exact hq.h):p:=h ⟨k⟩
theorem pU {p q:Prop} (k:q) (h:jg q->p:=by intro hq;(iterate 19 refine jv ?_);exact hq.h):p:=h ⟨k⟩
theorem pa {p q:Prop} (k:q) (h:jg q->p:=by intro hq;(iterate 20 refine jv ?_);exact hq.h):p:=h ⟨k⟩
theorem aaN {p q:Prop} (k:q) (h:jg q->p:=by intro hq;(iterate 21 refine jv ?_);exact hq.h):p:=h ⟨k⟩
theorem aol {p q:Prop} (k:q) (h:jg q->p:=by intro hq;(iterate 22 refine jv ?_);exact hq.h):p:=h ⟨k⟩
theorem abi {p q:Prop} (k:q) (h:jg q->p:=by intro hq;(iterate 23 refine jv ?_);exact hq.h):p:=h ⟨k⟩
theorem aaJ {p q:Prop} (k:q) (h:jg q->p:=by intro hq;(iterate 24 refine jv ?_);exact hq.h):p:=h ⟨k⟩
theorem wP {p q:Prop} (k:q) (h:jg q->p:=by intro hq;(iterate 25 refine jv ?_);exact hq.h):p:=h ⟨k⟩
theorem azz {p q:Prop} (k:q) (h:jg q->p:=by intro hq;(iterate 26 refine jv ?_);exact hq.h):p:=h ⟨k⟩
theorem arc {p q:Prop} (k:q) (h:jg q->p:=by intro hq;(iterate 27 refine jv ?_);exact hq.h):p:=h ⟨k⟩
theorem amL {p q:Prop} (k:q) (h:jg q->p:=by intro hq;(iterate 28 refine jv ?_);exact hq.h):p:=h ⟨k⟩
theorem avL {p q:Prop} (k:q) (h:jg q->p:=by intro hq;(iterate 31 refine jv ?_);exact hq.h):p:=h ⟨k⟩
theorem aoJ {p q:Prop} (k:q) (h:jg q->p:=by intro hq;(iterate 33 refine jv ?_);exact hq.h):p:=h ⟨k⟩
theorem auh {p q:Prop} (k:q) (h:jg q->p:=by intro hq;(iterate 34 refine jv ?_);exact hq.h):p:=h ⟨k⟩
theorem aKl {p q:Prop} (k:q) (h:jg q->p:=by intro hq;(iterate 49 refine jv ?_);exact hq.h):p:=h ⟨k⟩
theorem aEo {p q:Prop} (k:q) (h:jg q->p:=by intro hq;(iterate 54 refine jv ?_);exact hq.h):p:=h ⟨k⟩
theorem aGc {p q:Prop} (k:q) (h:jg q->p:=by intro hq;(iterate 57 refine jv ?_);exact hq.h):p:=h ⟨k⟩
def nW:Op->Bool
 | .move _=>true
 | .pick ..=>true
 | .binOp ..=>true
 | .load ..=>true
 | .fieldAddr ..=>true
 | .indexAddr ..=>true
 | .call ⟨.builtin .len,_,_⟩=>true
 | _=>false
theorem axC {op:Op} (h:nW op=true):xc op=false:=by
 unfold nW at h
 split at h<;>first | rfl | cases h
section
variable {P:Program} {H:bW} {ρ rK:Operand->LV}
theorem aF.adW {op:Op} {r:LV} (h:aF P H ρ op r) (hp:nW op=true) (hr:∀ x∈op.operands,rK x=ρ x):aF P H rK op r:=by
 cases h with
 | move x=>rw [<-hr x bU];exact .move x
 | pick hc =>
  rename_i c x y t
  have e1:=hr x bU
  have e2:=hr y bU
  have:=aF.pick (P:=P) (H:=H) (ρ:=rK) (x:=x) (y:=y) ((hr _ bU).trans hc)
  rw [e1,e2] at this
  exact this
 | bin hx hy h=>exact .bin ((hr _ bU).trans hx) ((hr _ bU).trans hy) h
 | sh hx hy h=>exact .sh ((hr _ bU).trans hx) ((hr _ bU).trans hy) h
 | beq hx hy hT=>exact .beq ((hr _ bU).trans hx) ((hr _ bU).trans hy) hT
 | bne hx hy hT=>exact .bne ((hr _ bU).trans hx) ((hr _ bU).trans hy) hT
 | zR hx hy h=>exact .zR ((hr _ bU).trans hx) ((hr _ bU).trans hy) h
 | eqS hx hy=>exact .eqS ((hr _ bU).trans hx) ((hr _ bU).trans hy)
 | eqN hx hy hT=>exact .eqN ((hr _ bU).trans hx) ((hr _ bU).trans hy) hT
 | aao hx hy hT=>exact .aao ((hr _ bU).trans hx) ((hr _ bU).trans hy) hT
 | zJ hx hy hT hE hs hd=>exact .zJ ((hr _ bU).trans hx) ((hr _ bU).trans hy) hT hE hs hd
 | zV hq hT tk=>exact .zV ((hr _ bU).trans hq) hT tk
 | abp hq hT hk=>exact .abp ((hr _ bU).trans hq) hT hk
 | z5 hq hT hc=>exact .z5 ((hr _ bU).trans hq) hT hc
 | gj hq hb hs hi hx tk hT=>exact .gj ((hr _ bU).trans hq) hb hs hi hx tk hT
 | abL hx hT hE hi h0 hm=>exact .abL ((hr _ bU).trans hx) hT hE ((hr _ bU).trans hi) h0 hm
 | abx hx hT hE hf hi h0 tk=>exact .abx ((hr _ bU).trans hx) hT hE hf ((hr _ bU).trans hi) h0 tk
 | kQ hx hT hE hi h0 tk hc=>exact .kQ ((hr _ bU).trans hx) hT hE ((hr _ bU).trans hi) h0 tk hc
 | xe hx hT hE hi h0 hn=>exact .xe ((hr _ bU).trans hx) hT hE ((hr _ bU).trans hi) h0 hn
 | aaj hx has hT=>exact .aaj ((hr _ lZ).trans hx) has hT
 | aa8 hx has hT=>exact .aa8 ((hr _ lZ).trans hx) has hT
 | aaO hx has hT=>exact .aaO ((hr _ lZ).trans hx) has hT
 | abf hx has hT=>exact .abf ((hr _ lZ).trans hx) has hT
 | _=>first | (cases hp;done) | (simp [nW] at hp;done)
end
def yO (n e:Nat):Array Bool:=((c9 n).map fun i=>decide (i<e)).toArray
theorem apO {n e i:Nat} (h:i<n):(yO n e).getD i false=decide (i<e):=by
 unfold yO
 rw [dG]
 simp [h]
theorem asV (n e:Nat):(yO n e).size=n:=by simp [yO]
theorem aCG {n e:Nat} {D:Array Bool} (hs:D.size=n) (h:∀ i,i<n->D.getD i false=decide (i<e)):D=yO n e:=by
 refine Array.ext (by rw [asV,hs]) fun i h1 h2=>?_
 have e1:=h i ae
 have e2:=apO (n:=n) (e:=e) (i:=i) ae
 rw [dG,pE h1] at e1
 rw [dG,pE h2] at e2
 simp only [aag] at e1 e2
 rw [e1,e2]
def aka (ops:Array Oper) (s e:Nat):Bool :=
 decide (s<=e) && decide (e<=ops.size) && ((c9 ops.size).all fun i=>(jZ (ops.getD i default)).all (·<i)) &&
 ((c9 e).all fun i=>decide (i<s) || nW (ops.getD i default).op) &&
 ((c9 e).all fun i=>(c9 e).all fun j=>decide (i<s) || decide (j<s) || i==j || aaU ops (bef ops.toList []) i j) &&
 ((c9 ops.size).all fun i=>decide (i<e) || (c9 e).all fun j=>decide (j<s) || ((bef ops.toList []).getD i 0).testBit j)
section
variable {P:Program} {ops:Array Oper}
theorem aqm {K:St->Prop}:∀ (n:Nat) (D:Array Bool) (L:St),jx P ops n D L K->jx P ops (n+1) D L K
 | 0,D,L,h=>⟨fun _=>h.2,fun i hi=>by rw [h.1] at hi;cases hi⟩
 | n+1,D,L,h=>⟨h.1,fun i hi=>by
  obtain⟨o,L',h1,h2,h3⟩:=h.2 i hi
  exact⟨o,L',h1,h2,aqm n _ _ h3⟩⟩
open Classical in
noncomputable def vA (ops:Array Oper) (g:Nat->St) (s e:Nat) (D:Array Bool) (t:Nat):LV :=
 if ∃ i o,s<=i/\i<e/\D.getD i false=true/\ops[i]?=some o/\o.dst=some t then(g e).slot t else(g s).slot t
theorem azM {fuel:Nat} {K:St->Prop} {L:St} {D:Array Bool} (s e:Nat) (l:List Oper) (hD:D=yO ops.size s) (hl:l=(ops.toList.drop s).take (e-s)) (fT:aka ops s e=true)
  (h:opsL P true ops l L (fun L'=>jx P ops fuel (yO ops.size e) L' K)):jx P ops (fuel+(e-s)) D L K:=by
 unfold aka at fT
 simp only [kI,decide_eq_true_eq,pO,qy,oN] at fT
 obtain⟨⟨⟨⟨⟨hse,hen⟩,h1⟩,h2⟩,h3⟩,h4⟩:=fT
 have ir:∀ i o,ops[i]?=some o->ops.getD i default=o:=fun i o h=>by rw [dG,h];rfl
 have ov:∀ i o,ops[i]?=some o->i<ops.size:=fun i o h=>(nA.1 h).1
 have xX:∀ i,i<ops.size->∃ o,ops[i]?=some o:=fun i h=>⟨_,pE h⟩
 have pX:=aej ops ops.toList [] (fun i=>by simp) (fun i t h=>by simp at h)
 have vE:∀ i o,ops[i]?=some o->∀ j∈jZ o,j<i:=fun i o h j hj=>h1 i (ov i o h) j (by rw [ir i o h];exact hj)
 have aoG:∀ i o,ops[i]?=some o->s<=i->i<e->nW o.op=true:=fun i o h a b=>by
  rcases h2 i b with c | c
  ·omega
  ·rw [ir i o h] at c;exact c
 have wa:∀ i,i<ops.size->e<=i->∀ j,s<=j->j<e->nX ops j i:=fun i hi a j b c=>by
  rcases h4 i hi with q | q
  ·omega
  ·rcases q j c with q | q
   ·omega
   ·exact pX i j q
 have vg:∀ i j oi oj d,ops[i]?=some oi->ops[j]?=some oj->s<=i->i<e->s<=j->j<e->i≠j->oj.dst=some d->oi.dst≠some d/\(d∈oi.looksAt ops->if j<i then nX ops j i else nX ops i j):=by
  intro i j oi oj d hi hj si ei sj ej aX py
  rcases h3 i ei j ej with((q | q) | q) | q
  ·omega
  ·omega
  ·exact absurd (by simpa using q) aX
  ·unfold aaU at q
   rw [ir j oj hj,ir i oi hi,py] at q
   simp only [kI,bne_iff_ne,ne_eq,oN,xC] at q
   refine⟨q.1,fun sV=>?_⟩
   rcases q.2 with h' | h'
   ·rw [pS.2 sV] at h';cases h'
   ·split at h'<;>rename_i bH
    ·rw [if_pos bH];exact pX i j h'
    ·rw [if_neg bH];exact pX j i h'
 obtain⟨f,f0,fs,fK⟩:=aa1 _ _ h
 have hlen:l.length=e-s:=by rw [hl];simp;omega
 obtain⟨g,hg⟩:∃ g:Nat->St,g=fun i=>f (i-s):=⟨_,rfl⟩
 have gs0:g s=L:=by rw [hg];simp only [qn];exact f0
 have ge0:g e=f l.length:=by rw [hg,hlen]
 have gst:∀ i o,ops[i]?=some o->s<=i->i<e->Step P true ops o (g i) (g (i+1)):=fun i o h a b=>by
  have:=fs (i-s) o (by
   rw [hl,anT,if_pos ae,tc,show s+(i-s)=i by omega]
   simpa using h)
  rw [hg]
  simp only
  rw [show i+1-s=i-s+1 by omega]
  exact this
 rw [<-ge0] at fK
 have tB:∀ i o,ops[i]?=some o->s<=i->i<e->(g i).heap.le (g (i+1)).heap/\∀ t,o.dst≠some t->(g (i+1)).slot t=(g i).slot t:=fun i o h a b=>aog (axC (aoG i o h a b)) (gst i o h a b)
 have hle:∀ i j,s<=i->i<=j->j<=e->(g i).heap.le (g j).heap:=by
  intro i j si rF
  induction j with
  | zero =>
   intro _
   obtain rfl:i=0:=by omega
   exact bW.le_refl _
  | succ j ih =>
   intro mE
   by_cases c:i=j+1
   ·subst c;exact bW.le_refl _
   ·obtain⟨o,ho⟩:=xX j ae
    exact bW.le_trans (ih ae ae) (tB j o ho ae ae).1
 have hconst:∀ i j t,s<=i->i<=j->j<=e->(∀ k o,i<=k->k<j->ops[k]?=some o->o.dst≠some t)->(g j).slot t=(g i).slot t:=by
  intro i j t si rF
  induction j with
  | zero =>
   intro _ _
   obtain rfl:i=0:=by omega
   rfl
  | succ j ih =>
   intro mE hk
   by_cases c:i=j+1
   ·subst c;rfl
   ·obtain⟨o,ho⟩:=xX j ae
    rw [(tB j o ho ae ae).2 t (hk j o ae ae ho)]
    exact ih ae ae (fun k o a b=>hk k o a ae)
 have aeq:∀ i o t,ops[i]?=some o->s<=i->i<e->o.dst=some t->(g e).slot t=(g (i+1)).slot t:=fun i o t ho si ei lF =>
  hconst (i+1) e t ae ae (bq _) (fun k ok a b hk q=>(vg i k o ok t ho hk si ei ae b ae q).1 lF)
 let closed:Array Bool->Prop:=fun D=>∀ i o,ops[i]?=some o->D.getD i false=true->∀ j∈jZ o,D.getD j false=true
 have yW:∀ D,closed D->∀ j i,nX ops j i->(∀ o,ops[i]?=some o->∀ k∈jZ o,D.getD k false=true)->D.getD j false=true:=by
  intro D hD j i hA
  induction hA with
  | @one i o ho h=>intro hr;exact hr o ho _ h
  | @step k i o hA ho hk ih=>intro hr;exact ih (fun o' mw k' nu=>hD k o' mw (hr o ho k hk) k' nu)
 have main:∀ (n:Nat) (D:Array Bool) (L:St),D.size=ops.size->(∀ i,i<s->D.getD i false=true)->(∀ i,e<=i->D.getD i false=false)->closed D->(∀ t,L.slot t=vA ops g s e D t) ->
   (L.heap=(g e).heap\/(L.heap=(g s).heap/\∀ i,s<=i->i<e->D.getD i false=true->(g (i+1)).heap=(g i).heap))->(c9 e).countP (fun i=>!D.getD i false)<=n->jx P ops (fuel+n) D L K:=by
  intro n
  induction n with
  | zero =>
   intro D L bI cg iT jH k6 hhp hct
   have eO:∀ i,i<e->D.getD i false=true:=fun i hi=>by
    have:(c9 e).countP (fun i=>!D.getD i false)=0:=by omega
    have:=auv.1 this i (qy.2 hi)
    simpa using this
   have eD:D=yO ops.size e:=aCG bI fun i hi=>by
    rcases gC i e with c | c
    ·rw [eO i c,decide_eq_true c]
    ·rw [iT i c,decide_eq_false ae]
   have eL:L=g e:=by
    have q1:L.slot=(g e).slot:=by
     funext t
     rw [k6 t]
     unfold vA
     split
     ·rfl
     ·rename_i nI
      exact(hconst s e t (bq _) hse (bq _) (fun k o a b hk q=>nI ⟨k,o,a,b,eO k b,hk,q⟩)).symm
    have q2:L.heap=(g e).heap:=by
     rcases hhp with q | ⟨q,hq⟩
     ·exact q
     ·rw [q]
      have:∀ m,s<=m->m<=e->(g m).heap=(g s).heap:=by
       intro m
       induction m with
       | zero =>
        intro a _
        obtain rfl:s=0:=by omega
        rfl
       | succ m ih =>
        intro a b
        by_cases c:s=m+1
        ·rw [c]
        ·rw [hq m ae ae (eO m ae)];exact ih ae ae
      exact(this e hse (bq _)).symm
    cases L;cases kM:g e
    rw [kM] at q1 q2
    simp only at q1 q2
    rw [q1,q2]
   rw [eD,eL];exact fK
  | succ n ih =>
   intro D L bI cg iT jH k6 hhp hct
   by_cases eO:∀ i,i<e->D.getD i false=true
   ·have h0:(c9 e).countP (fun i=>!D.getD i false)=0:=auv.2 fun i hi=>by rw [eO i (qy.1 hi)];decide
    exact aqm _ _ _ (ih D L bI cg iT jH k6 hhp ae)
   ·have s8:∀ i,i∈Region.ready .any ops D->s<=i/\i<e:=fun i hi=>by
     obtain⟨o,tu,rJ,p3'⟩:=(qD bI).1 hi
     have bH:=ov i o tu
     have tq:D.getD i false=false:=by rw [vr ae false true];exact rJ
     refine⟨?_,?_⟩
     ·rcases gC i s with c | c
      ·rw [cg i c] at tq;cases tq
      ·exact c
     ·rcases gC i e with c | c
      ·exact c
      ·exfalso
       refine eO fun j hj=>?_
       rcases gC j s with d | d
       ·exact cg j d
       ·exact yW D jH j i (wa i bH c j d hj) (fun o' mw k hk=>by rw [tu] at mw;cases mw;exact p3' k hk)
    refine⟨fun hr=>?_,fun i hi=>?_⟩
    ·exfalso
     refine eO fun i=>?_
     induction i using abZ with
     | _ i ihh =>
      intro hie
      cases hc:D.getD i false with
      | true=>rfl
      | false =>
       obtain⟨o,ho⟩:=xX i ae
       have:i∈Region.ready .any ops D:=(qD bI).2 ⟨o,ho,by rw [vr ae true false];exact hc,fun j hj=>by
        have:=vE i o ho j hj
        exact ihh j this ae⟩
       rw [hr] at this;cases this
    ·obtain⟨si,ei⟩:=s8 i hi
     obtain⟨o,ho,abl,xq⟩:=(qD bI).1 hi
     have tq:D.getD i false=false:=by rw [vr ae false true];exact abl
     have jl:∀ k,(D.setIfInBounds i true).getD k false=true↔k=i\/D.getD k false=true:=fun k=>by
      by_cases c:i=k
      ·subst c
       rw [dG,oz ae];simp
      ·rw [dG,ka c,<-dG]
       constructor
       ·exact fun h=>.inr h
       ·rintro(h | h)
        ·exact absurd h.symm c
        ·exact h
     have acz:closed (D.setIfInBounds i true):=fun k ok hk fo j hj=>by
      rcases(jl k).1 fo with rfl | h
      ·rw [ho] at hk;cases hk
       exact(jl j).2 (.inr (xq j hj))
      ·exact(jl j).2 (.inr (jH k ok hk h j hj))
     have ab4:∀ o',ops[i]?=some o'->∀ k∈jZ o',D.getD k false=true:=fun o' mw k hk=>(by rw [ho] at mw;cases mw;exact xq k hk)
     have adK:∀ t,t∈o.looksAt ops->(g i).slot t=L.slot t:=by
      intro t ht
      rw [k6 t]
      by_cases hex:∃ j oj,s<=j/\j<e/\ops[j]?=some oj/\oj.dst=some t
      ·obtain⟨j,oj,sj,ej,hj,py⟩:=hex
       have za:∀ k ok,s<=k->k<e->ops[k]?=some ok->ok.dst=some t->k=j:=fun k ok sk ek hk lW =>
        pY fun aX=>(vg k j ok oj t hk hj sk ek sj ej aX py).1 lW
       have aq3:(∀ hh:D.getD j false=true,False)->vA ops g s e D t=(g s).slot t:=fun hh=>by
        unfold vA
        rw [if_neg]
        rintro⟨k,ok,sk,ek,fo,hk,lW⟩
        have:=za k ok sk ek hk lW
        subst this
        exact hh fo
       by_cases lP:j=i
       ·subst lP
        rw [hconst s j t (bq _) si ae (fun k ok a b hk q=>by have:=za k ok a ae hk q;omega),aq3 (fun hh=>by rw [tq] at hh;cases hh)]
       ·have hp:=(vg i j o oj t ho hj si ei sj ej (Ne.symm lP) py).2 ht
        by_cases bH:j<i
        ·rw [if_pos bH] at hp
         have xH:=yW D jH j i hp ab4
         have e2:vA ops g s e D t=(g e).slot t:=by
          unfold vA
          rw [if_pos ⟨j,oj,sj,ej,xH,hj,py⟩]
         rw [e2,aeq j oj t hj sj ej py]
         exact hconst (j+1) i t ae ae ae (fun k ok a b hk q=>by have:=za k ok ae ae hk q;omega)
        ·rw [if_neg bH] at hp
         rw [hconst s i t (bq _) si ae (fun k ok a b hk q=>by have:=za k ok a ae hk q;omega),aq3 (fun hh=>by
          have:=yW D jH i j hp (fun o' mw k' nu=>jH j o' mw hh k' nu)
          rw [tq] at this;cases this)]
      ·rw [hconst s i t (bq _) si ae (fun k ok a b hk q=>hex ⟨k,ok,a,ae,hk,q⟩)]
       unfold vA
       rw [if_neg]
       rintro⟨k,ok,sk,ek,fo,hk,lW⟩
       exact hex ⟨k,ok,sk,ek,hk,lW⟩
     have af4:∀ t,vA ops g s e (D.setIfInBounds i true) t=if o.dst=some t then(g (i+1)).slot t else L.slot t:=by
      intro t
      rw [k6 t]
      by_cases lF:o.dst=some t
      ·rw [if_pos lF]
       unfold vA
       rw [if_pos ⟨i,o,si,ei,(jl i).2 (.inl rfl),ho,lF⟩]
       exact aeq i o t ho si ei lF
      ·rw [if_neg lF]
       unfold vA
       congr 1
       apply propext
       constructor
       ·rintro⟨k,ok,sk,ek,fo,hk,lW⟩
        rcases(jl k).1 fo with rfl | h
        ·rw [ho] at hk;cases hk;exact absurd lW lF
        ·exact⟨k,ok,sk,ek,h,hk,lW⟩
       ·rintro⟨k,ok,sk,ek,fo,hk,lW⟩
        exact⟨k,ok,sk,ek,(jl k).2 (.inr fo),hk,lW⟩
     have agL:∀ res,ef ops (g i) o res->ef ops L o res:=fun res hgd=>by
      unfold ef at hgd ⊢
      cases hh:o.guard with
      | none=>rw [hh] at hgd;exact hgd
      | some pr =>
       obtain⟨j,want⟩:=pr
       rw [hh] at hgd
       obtain⟨d,oL,q'⟩:=hgd
       have e1:(g i).slot d=L.slot d:=adK d (by unfold Oper.looksAt;rw [hh];simp [oL])
       refine⟨d,oL,?_⟩
       show (∃ b,L.slot d=_/\_)\/(L.slot d=_/\_)
       rw [<-e1]
       exact q'
     have nF:∀ (r:LV) (H1:bW),(∀ t,o.dst=some t->(g (i+1)).slot t=r)->∀ t,(⟨(L.put o.dst r).slot,H1⟩:St).slot t=vA ops g s e (D.setIfInBounds i true) t:=fun r H1 hr t=>by
      rw [af4 t]
      show (L.put o.dst r).slot t=_
      cases hd:o.dst with
      | none=>rw [if_neg aM];rfl
      | some d =>
       rw [iz]
       by_cases c:t=d
       ·subst c
        rw [if_pos rfl,if_pos rfl,hr t hd]
       ·rw [if_neg c,if_neg (fun q=>c (by cases q;rfl))]
     have apJ:(c9 e).countP (fun k=>!(D.setIfInBounds i true).getD k false)<=n:=by
      have:(c9 e).countP (fun k=>!(D.setIfInBounds i true).getD k false)<(c9 e).countP (fun k=>!D.getD k false):=by
       apply akE
       ·intro k _ hk
        cases hc:D.getD k false with
        | false=>rfl
        | true=>rw [(jl k).2 (.inr hc)] at hk;cases hk
       ·exact⟨i,qy.2 ei,by rw [tq];rfl,by rw [(jl i).2 (.inl rfl)];rfl⟩
      omega
     have aci:∀ L',Step P false ops o L L'->(∀ t,L'.slot t=vA ops g s e (D.setIfInBounds i true) t)->(L'.heap=(g e).heap\/(L'.heap=(g s).heap/\∀ k,s<=k->k<e->(D.setIfInBounds i true).getD k false=true->(g (k+1)).heap=(g k).heap)) ->
       ∃ o L',ops[i]?=some o/\Step P false ops o L L'/\jx P ops (fuel+n) (D.setIfInBounds i true) L' K:=fun L' dj mJ hh' =>
      ⟨o,L',ho,dj,ih _ L' (by simpa using bI) (fun k hk=>(jl k).2 (.inr (cg k hk))) (fun k hk=>by
       cases hc:(D.setIfInBounds i true).getD k false with
       | false=>rfl
       | true =>
        rcases(jl k).1 hc with rfl | q
        ·omega
        ·rw [iT k hk] at q;cases q) acz mJ hh' apJ⟩
     have gO:=aoG i o ho si ei
     cases gst i o ho si ei with
     | skip hg' h' =>
      refine aci (L.put o.dst (.bf [])) (.skip (agL false hg') rfl) (fun t=>?_) ?_
      ·have:=nF (.bf []) L.heap (fun t ht=>by rw [h',ht,iz,if_pos rfl]) t
       exact this
      ·rw [mb]
       rcases hhp with q | ⟨q,hq⟩
       ·exact .inl q
       ·refine .inr ⟨q,fun k sk ek hk=>?_⟩
        rcases(jl k).1 hk with rfl | hk
        ·rw [h',mb]
        ·exact hq k sk ek hk
     | @val r fr H1 hg' hH dQ nD h' =>
      obtain⟨dst,op,ty,pos,after,gd⟩:=o
      have vj:H1=(g (i+1)).heap:=by rw [h']
      have adF:H1.le (g e).heap:=by rw [vj];exact hle (i+1) e ae ae (bq _)
      cases nD with
      | alloc ha=>cases ha<;>cases gO
      | call hc=>cases hc<;>cases gO
      | pure hpp =>
       have gW:∀ x∈op.operands,L.ev x=(g i).ev x:=by
        intro x hx
        cases x with
        | tmp t =>
         have ht:t∈Oper.looksAt ops ⟨dst,op,ty,pos,after,gd⟩:=by
          unfold Oper.looksAt
          simp only [o8,yL]
          exact .inl ⟨.tmp t,by simpa using hx,rfl⟩
         exact(adK t ht).symm
        | const v=>rfl
        | func f=>rfl
        | global f=>rfl
       have aEf:=aF.adW (aF.le adF hpp) gO gW
       have hLe:L.heap.le (g e).heap:=by
        rcases hhp with q | ⟨q,_⟩
        ·rw [q];exact bW.le_refl _
        ·rw [q];exact hle s e (bq _) hse (bq _)
       refine aci ⟨(L.put dst r).slot,(g e).heap⟩ (.val (fr:=[]) (agL true hg') hLe (fun _ _ hh=>by cases hh) (.pure aEf) rfl) (nF r _ (fun t ht=>?_)) (.inl rfl)
       rw [h']
       show ((g i).put dst r).slot t=r
       have ht:dst=some t:=ht
       rw [ht,iz,if_pos rfl]
     | st hg' r8 =>
      obtain⟨dst,op,ty,pos,after,gd⟩:=o
      have:=axC gO
      rw [r8.tail] at this;cases this
     | stM im _ _=>cases im
 have bI:D.size=ops.size:=by rw [hD];exact asV _ _
 have hDg:∀ i,D.getD i false=true↔i<s:=fun i=>by
  rcases gC i ops.size with c | c
  ·rw [hD,apO c,decide_eq_true_eq]
  ·constructor
   ·intro q
    rw [dG,Array.getElem?_eq_none ae] at q
    cases q
   ·intro q;omega
 refine main (e-s) D L bI (fun i hi=>(hDg i).2 hi) (fun i hi=>?_) (fun i o ho hi j hj=>(hDg j).2 (by have:=vE i o ho j hj;have:=(hDg i).1 hi;omega)) (fun t=>?_) (.inr ⟨by rw [gs0],fun i si _ hi=>by have:=(hDg i).1 hi;omega⟩) ?_
 ·cases hc:D.getD i false with
  | false=>rfl
  | true=>have:=(hDg i).1 hc;omega
 ·unfold vA
  rw [if_neg,gs0]
  rintro⟨k,o,sk,_,hk,_⟩
  have:=(hDg k).1 hk
  omega
 ·have:∀ m,(c9 m).countP (fun i=>!D.getD i false)<=m-s:=by
   intro m
   induction m with
   | zero=>simp
   | succ m ih =>
    rw [List.range_succ,List.countP_append]
    have y8:List.countP (fun i=>!D.getD i false) [m]=if D.getD m false=true then 0 else 1:=by
     rw [List.countP_cons,List.countP_nil,fF]
     cases hc:D.getD m false<;>rfl
    rw [y8]
    split
    ·omega
    ·rename_i hc
     have:¬m<s:=fun q=>hc ((hDg m).2 q)
     omega
  exact this e
theorem aoj {m:Nat} {K:St->Prop} {L:St} {D:Array Bool} {l0:List Oper} (s e fuel:Nat) (hm:m=fuel+(e-s)) (hD:D=yO l0.toArray.size s) (fT:aka l0.toArray s e=true)
  (h:opsL P true l0.toArray ((l0.drop s).take (e-s)) L (fun L'=>jx P l0.toArray fuel (yO l0.toArray.size e) L' K)):jx P l0.toArray m D L K:=by
 subst hm
 exact azM s e _ hD rfl fT h
end
def afZ:Op->Bool
 | .move _=>true
 | .binOp ..=>true
 | .fieldAddr ..=>true
 | .indexAddr ..=>true
 | .call ⟨.builtin .len,_,_⟩=>true
 | _=>false
def yQ:Op->Bool
 | .store ..=>true
 | .call ⟨.value (.func _),_,_⟩=>true
 | op=>nW op
theorem aEq {op:Op} (h:afZ op=true):nW op=true:=by
 unfold afZ at h
 split at h<;>first | rfl | cases h
theorem aF.aFQ {P:Program} {H H':bW} {ρ:Operand->LV} {op:Op} {r:LV} (h:aF P H ρ op r) (hp:afZ op=true):aF P H' ρ op r:=by
 cases h with
 | move x=>exact .move x
 | bin hx hy h=>exact .bin hx hy h
 | sh hx hy h=>exact .sh hx hy h
 | beq hx hy hT=>exact .beq hx hy hT
 | bne hx hy hT=>exact .bne hx hy hT
 | zR hx hy h=>exact .zR hx hy h
 | eqS hx hy=>exact .eqS hx hy
 | eqN hx hy hT=>exact .eqN hx hy hT
 | aao hx hy hT=>exact .aao hx hy hT
 | zJ hx hy hT hE hs hd=>exact .zJ hx hy hT hE hs hd
 | zV hq hT tk=>exact .zV hq hT tk
 | abp hq hT hk=>exact .abp hq hT hk
 | abL hx hT hE hi h0 hm=>exact .abL hx hT hE hi h0 hm
 | abx hx hT hE hf hi h0 tk=>exact .abx hx hT hE hf hi h0 tk
 | kQ hx hT hE hi h0 tk hc=>exact .kQ hx hT hE hi h0 tk hc
 | xe hx hT hE hi h0 hn=>exact .xe hx hT hE hi h0 hn
 | aaj hx has hT=>exact .aaj hx has hT
 | aa8 hx has hT=>exact .aa8 hx has hT
 | aaO hx has hT=>exact .aaO hx has hT
 | abf hx has hT=>exact .abf hx has hT
 | _=>first | (cases hp;done) | (simp [afZ] at hp;done)
theorem put_comm (L:St) {d e:Nat} (h:d≠e) (v r:LV):(L.put (some d) v).put (some e) r=(L.put (some e) r).put (some d) v:=by
 have:∀ t,((L.put (some d) v).put (some e) r).slot t=((L.put (some e) r).put (some d) v).slot t:=fun t=>by
  rw [iz,iz,iz,iz]
  by_cases h1:t=e
  ·rw [if_pos h1,if_neg ae,if_pos h1]
  ·rw [if_neg h1,if_neg h1]
 exact congrArg (fun f=>St.mk f L.heap) (funext this)
theorem tI (L:St) {d:Nat} {e:Option Nat} (h:e≠some d) (v r:LV):(L.put (some d) v).put e r=(L.put e r).put (some d) v:=by
 cases e with
 | none=>rfl
 | some e=>exact put_comm L (fun q=>h (by rw [q])) v r
section
variable {P:Program} {ops:Array Oper}
theorem auj {L:St} {d:Nat} {v:LV} {o:Oper} (h:d∉o.looksAt ops):∀ x∈o.op.operands,(L.put (some d) v).ev x=L.ev x:=fun x hx=>by
 cases x with
 | tmp t =>
  have ht:t∈o.looksAt ops:=by
   unfold Oper.looksAt
   simp only [o8,yL]
   exact .inl ⟨.tmp t,by simpa using hx,rfl⟩
  show (L.put (some d) v).slot t=L.slot t
  rw [iz,if_neg (fun q=>h (by rw [<-q];exact ht))]
 | const v=>rfl
 | func f=>rfl
 | global f=>rfl
theorem uk {L:St} {d:Nat} {v:LV} {o:Oper} {res:Bool} (h:d∉o.looksAt ops) (hg:ef ops (L.put (some d) v) o res):ef ops L o res:=by
 unfold ef at hg ⊢
 cases hh:o.guard with
 | none=>rw [hh] at hg;exact hg
 | some pr =>
  obtain⟨j,want⟩:=pr
  rw [hh] at hg
  obtain⟨t,oL,q'⟩:=hg
  have aX:t≠d:=fun q=>h (by rw [<-q];unfold Oper.looksAt;rw [hh];simp [oL])
  have e1:(L.put (some d) v).slot t=L.slot t:=by rw [iz,if_neg aX]
  refine⟨t,oL,?_⟩
  show (∃ b,L.slot t=_/\_)\/(L.slot t=_/\_)
  rw [<-e1]
  exact q'
theorem yJ {f:Operand} {xs:Array Operand} {ve:Array TypeId} {x:Operand} (h:x∈xs.toList):x∈(Op.call ⟨.value f,xs,ve⟩).operands:=by
 have:=af0.1 h
 simp [Op.operands,Call.operands,this]
theorem aGs {L L2:St} {d:Nat} {v:LV} {o:Oper} (hk:yQ o.op=true) (hl:d∉o.looksAt ops) (hd:o.dst≠some d) (h:Step P false ops o (L.put (some d) v) L2) :
  ∃ L1,Step P false ops o L L1/\L2=L1.put (some d) v/\∀ t,o.dst≠some t->L1.slot t=L.slot t:=by
 have gW:=auj (L:=L) (v:=v) hl
 have k6:∀ (M:St) (r:LV) t,M.slot t=L.slot t->o.dst≠some t->(M.put o.dst r).slot t=L.slot t:=fun M r t hM aX=>by
  cases hh:o.dst with
  | none=>exact hM
  | some e=>rw [iz,if_neg (fun q=>aX (by rw [hh,q]))];exact hM
 cases h with
 | skip hg hL=>exact⟨L.put o.dst (.bf []),.skip (uk hl hg) rfl,by rw [hL,tI L hd],fun t ht=>k6 L _ t rfl ht⟩
 | @val r fr H1 hg hle dQ nD hL =>
  obtain⟨dst,op,ty,pos,after,gd⟩:=o
  have agy:∀ x∈op.operands,L.ev x=(L.put (some d) v).ev x:=fun x hx=>(gW x hx).symm
  have adf:nC P H1 L.ev (dst.getD 0) op r fr:=by
   cases nD with
   | pure hp =>
    by_cases gO:nW op=true
    ·exact .pure (hp.adW gO agy)
    ·cases hp with
     | abj hf ry hb hn he hx hr h1 h2 =>
      refine .pure (.abj hf ry hb hn he ?_ hr h1 h2)
      rw [<-hx]
      exact rz fun x w8=>agy x (yJ w8)
     | _=>first | (exfalso;exact gO rfl) | (exfalso;revert hk gO;simp [yQ,nW])
   | alloc ha=>cases ha<;>(exfalso;revert hk;simp [yQ,nW])
   | call hc =>
    cases hc with
    | func ha hkk hlen oG =>
     refine .call (.func ?_ hkk hlen oG)
     rw [show (_:Array Operand).toList.map L.ev=_ from rz fun x w8=>agy x (yJ w8)]
     exact ha
    | dq=>exfalso;revert hk;simp [yQ,nW]
    | mk=>exfalso;revert hk;simp [yQ,nW]
  refine⟨⟨(L.put dst r).slot,H1⟩,.val (uk hl hg) hle dQ adf rfl,?_,fun t ht=>k6 L r t rfl ht⟩
  rw [hL]
  have:=tI L hd v r
  exact congrArg (fun M=>St.mk (St.slot M) H1) this
 | st hg r8 =>
  obtain⟨dst,op,ty,pos,after,gd⟩:=o
  cases r8 with
  | store hp hb hs hm hi hy nF hT aX =>
   rename_i T p x b sz i o' blk y y'
   have e1:=gW p bU
   have e2:=gW x bU
   rw [e1] at hp
   rw [e2] at nF hT aX
   refine⟨_,.st (uk hl hg) (.store hp hb hs hm hi hy nF hT aX),?_,fun t ht=>?_⟩
   ·exact tI (L.bO b _) hd v .any
   ·exact k6 (L.bO b _) .any t rfl ht
  | _=>exfalso;revert hk;simp [yQ,nW]
 | stM im hg lH =>
  obtain⟨dst,op,ty,pos,after,gd⟩:=o
  cases lH with
  | call hb hm hp ha hn hkk qH kG =>
   rename_i f xs ve args r b blk blk'
   have em:xs.toList.map (L.put (some d) v).ev=xs.toList.map L.ev:=rz fun x w8=>gW x (yJ w8)
   rw [em] at ha hn
   refine⟨_,.stM im (uk hl hg) (.call hb hm hp ha hn hkk qH kG),?_,fun t ht=>?_⟩
   ·exact tI (L.bO b _) hd v _
   ·exact k6 (L.bO b _) _ t rfl ht
  | ajg=>exfalso;revert hk;simp [yQ,nW]
  | agl=>exfalso;revert hk;simp [yQ,nW]
  | ovl hf ry hb hn he ht hE hx hy vK h1 h2 dO =>
   rw [gW _ (yJ aM)] at hx
   rw [gW _ (yJ aM)] at hy
   refine⟨_,.stM im (uk hl hg) (.ovl hf ry hb hn he ht hE hx hy vK h1 h2 dO),?_,fun t ht=>?_⟩
   ·exact tI L hd v _
   ·exact k6 L _ t rfl ht
def apc (ops:Array Oper) (i:Nat) (D:Array Bool):Bool :=
 D.size==ops.size && !D.getD i true && (jZ (ops.getD i default)).all (fun j=>D.getD j false) && (ops.getD i default).guard.isNone && afZ (ops.getD i default).op &&
 (c9 ops.size).all fun j=>j==i || D.getD j true || (yQ (ops.getD j default).op && ((ops.getD j default).dst != (ops.getD i default).dst) &&
  (match (ops.getD i default).dst with | some d=>!((ops.getD j default).looksAt ops).contains d || (jZ (ops.getD j default)).contains i | none=>false) &&
  (match (ops.getD j default).dst with | some e=>!((ops.getD i default).looksAt ops).contains e | none=>true))
theorem ae9 {m:Nat} {K:St->Prop} {L:St} {D:Array Bool} {d:Nat} {v:LV} (i:Nat) {o:Oper} (ho:ops[i]?=some o) (adH:o.dst=some d) (fT:apc ops i D=true) (hv:aF P L.heap L.ev o.op v)
  (h:jx P ops m (D.setIfInBounds i true) (L.put (some d) v) K):jx P ops (m+1) D L K:=by
 have ir:∀ i o,ops[i]?=some o->ops.getD i default=o:=fun i o h=>by rw [dG,h];rfl
 have s8:i<ops.size:=(nA.1 ho).1
 let C:Array Bool->Prop:=fun D=>D.size=ops.size/\D.getD i false=false/\(∀ j∈jZ o,D.getD j false=true)/\∀ j oj,ops[j]?=some oj->j≠i->D.getD j false=false ->
  yQ oj.op=true/\oj.dst≠some d/\(d∈oj.looksAt ops->i∈jZ oj)/\∀ e,oj.dst=some e->e∉o.looksAt ops
 unfold apc at fT
 rw [ir i o ho,adH] at fT
 simp only [kI,pO,qy,oN,beq_iff_eq,xC,xy,bne_iff_ne,ne_eq] at fT
 obtain⟨⟨⟨⟨⟨bI,tq⟩,xq⟩,hgd⟩,ajk⟩,eO⟩:=fT
 have hC:C D:=by
  refine⟨bI,by rw [vr ae false true];exact tq,xq,fun j oj hj aX xH=>?_⟩
  have hjl:j<ops.size:=(nA.1 hj).1
  have:=eO j hjl
  rw [ir j oj hj] at this
  rcases this with(q | q) | q
  ·exact absurd q aX
  ·rw [vr ae true false,xH] at q;cases q
  ·obtain⟨⟨⟨q1,q2⟩,q3⟩,q4⟩:=q
   refine⟨q1,q2,fun hm=>?_,fun e he hm=>?_⟩
   ·rcases q3 with q | q
    ·rw [pS.2 hm] at q;cases q
    ·exact pS.1 q
   ·rw [he] at q4
    simp only [xC] at q4
    rw [pS.2 hm] at q4;cases q4
 have agA:∀ L:St,aF P L.heap L.ev o.op v->Step P false ops o L (L.put (some d) v):=fun L hv=>by
  refine .val (fr:=[]) (H1:=L.heap) (r:=v) (by unfold ef;rw [hgd]) (bW.le_refl _) (fun _ _ hh=>by cases hh) (.pure hv) ?_
  rw [adH];rfl
 clear bI tq xq eO
 have main:∀ (n:Nat) (D:Array Bool) (L:St),C D->aF P L.heap L.ev o.op v->jx P ops n (D.setIfInBounds i true) (L.put (some d) v) K->jx P ops (n+1) D L K:=by
  intro n
  induction n with
  | zero =>
   intro D L ⟨c1,c2,c3,c4⟩ hv hh
   have ub:i∈Region.ready .any ops D:=(qD c1).2 ⟨o,ho,by rw [vr ae true false];exact c2,c3⟩
   refine⟨fun hr=>(by rw [hr] at ub;cases ub),fun j hj=>?_⟩
   by_cases lP:j=i
   ·subst lP
    exact⟨o,_,ho,agA L hv,hh⟩
   ·exfalso
    obtain⟨oj,h1,h2,h3⟩:=(qD c1).1 hj
    have:j∈Region.ready .any ops (D.setIfInBounds i true):=(qD (by simpa using c1)).2 ⟨oj,h1,by
     rw [dG,ka (Ne.symm lP),<-dG];exact h2,fun k hk=>by
     by_cases qG:i=k
     ·subst qG
      rw [dG,oz ae];rfl
     ·rw [dG,ka qG,<-dG];exact h3 k hk⟩
    rw [hh.1] at this;cases this
  | succ n ih =>
   intro D L ⟨c1,c2,c3,c4⟩ hv hh
   have ub:i∈Region.ready .any ops D:=(qD c1).2 ⟨o,ho,by rw [vr ae true false];exact c2,c3⟩
   refine⟨fun hr=>(by rw [hr] at ub;cases ub),fun j hj=>?_⟩
   by_cases lP:j=i
   ·subst lP
    exact⟨o,_,ho,agA L hv,hh⟩
   ·obtain⟨oj,h1,h2,h3⟩:=(qD c1).1 hj
    have hjl:j<ops.size:=(nA.1 h1).1
    have xH:D.getD j false=false:=by rw [vr ae false true];exact h2
    have aos:j∈Region.ready .any ops (D.setIfInBounds i true):=(qD (by simpa using c1)).2 ⟨oj,h1,by
     rw [dG,ka (Ne.symm lP),<-dG];exact h2,fun k hk=>by
     by_cases qG:i=k
     ·subst qG
      rw [dG,oz ae];rfl
     ·rw [dG,ka qG,<-dG];exact h3 k hk⟩
    obtain⟨oj',L2,g1,g2,g3⟩:=hh.2 j aos
    rw [h1] at g1;cases g1
    obtain⟨k1,k2,k3,k4⟩:=c4 j oj h1 lP xH
    have nj:d∉oj.looksAt ops:=fun hm=>by
     have:=h3 i (k3 hm)
     rw [c2] at this;cases this
    obtain⟨L1,s1,s2,s3⟩:=aGs k1 nj k2 g2
    refine⟨oj,L1,h1,s1,ih (D.setIfInBounds j true) L1 ⟨by simpa using c1,?_,fun k hk=>?_,fun k ok hk aX fo=>?_⟩ ?_ ?_⟩
    ·rw [dG,ka lP,<-dG];exact c2
    ·by_cases vJ:j=k
     ·subst vJ
      rw [dG,oz ae];rfl
     ·rw [dG,ka vJ,<-dG];exact c3 k hk
    ·by_cases vJ:j=k
     ·subst vJ
      rw [dG,oz ae] at fo
      cases fo
     ·rw [dG,ka vJ,<-dG] at fo
      exact c4 k ok hk aX fo
    ·refine(hv.adW (aEq ajk) fun x hx=>?_).aFQ ajk
     cases x with
     | tmp t =>
      have ht:t∈o.looksAt ops:=by
       unfold Oper.looksAt
       simp only [o8,yL]
       exact .inl ⟨.tmp t,by simpa using hx,rfl⟩
      exact s3 t (fun q=>k4 t q ht)
     | const v=>rfl
     | func f=>rfl
     | global f=>rfl
    ·rw [<-s2]
     have:(D.setIfInBounds j true).setIfInBounds i true=(D.setIfInBounds i true).setIfInBounds j true:=by
      refine ap0 fun k=>?_
      by_cases q1:i=k
      ·subst q1
       rw [oz bz,ka lP,oz ae]
      ·by_cases q2:j=k
       ·subst q2
        rw [ka q1,oz ae,oz bz]
       ·rw [ka q1,ka q2,ka q2,ka q1]
     rw [this];exact g3
 exact main m D L hC hv h
end
theorem az.cd {L:St} {t:Nat} {x y:LV} (bs:List Nat) (h0:bs.contains 0=false) (h:L.slot t=x) (hi:cY (L.cd bs).heap x y):az L ((L.cd bs).put (some t) y):=by
 rintro n W X Z0 a w ⟨ey,bI,μ,Z,hc,hr⟩
 obtain⟨Z',hc',hz⟩:=hc.xW (tb bs h0)
 refine⟨ey,bI,μ,Z',by rw [mb];exact hc',fun s=>?_⟩
 have hm:=bh.mono hz (fun _ _ h=>h) (Frame.refl Z μ w) (hr s)
 rw [iz]
 split
 ·rename_i dj
  subst dj
  rw [h] at hm
  exact bh.tw (LV.eW hi.lay.2.2) (cY.abT (bm:=μ) hc' hi hm)
 ·exact hm
theorem az.hand {L:St} {t:Nat} {α:Type} {e:α->LV} {ag:Bool} {b sz len:Nat} {l:List α} {m:Bool} (he:iZ e sz ag) (h:L.slot t=.ref b sz 0 len) (hb:L.heap b=some ⟨sz,l.map e,m⟩) (hl:len=l.length) (h0:b≠0:=by decide) :
  az L ((L.put (some t) (.list sz (l.map e))).kill b):=by
 have h0':([b]:List Nat).contains 0=false:=by simp;omega
 have e1:=(az.cd [b] h0' h (fI (bs:=[b]) he hb aM hl)).trans (az.kill _ b h0)
 have e2:((L.cd [b]).put (some t) (.list sz (l.map e))).kill b=(L.put (some t) (.list sz (l.map e))).kill b:=by
  unfold St.kill
  congr 1
  funext c
  rw [mb,mb]
  by_cases oa:c=b
  ·simp [oa]
  ·simp only [St.cd,if_neg oa]
   cases L.heap c with
   | none=>rfl
   | some blk=>simp [oa]
 rw [<-e2]
 exact e1
theorem az.cr {L:St} {t b sz:Nat} {y:LV} {m:Bool} (h:L.slot t=.aD b sz 0 0) (hb:L.heap b=some ⟨sz,[y],m⟩) (hs:y.aw=sz) (ha:y.isAgg=true) (hp:y.pure=true) (h0:b≠0:=by decide):az L ((L.put (some t) (.cr y)).kill b):=by
 have h0':([b]:List Nat).contains 0=false:=by simp;omega
 have e1:=(az.cd [b] h0' h (.aD (blk:=⟨sz,[y],m && !([b]:List Nat).contains b⟩) (x:=y) (n:=sz) (ag:=true) (by simp only [St.cd,hb,Option.map_some]) rfl rfl hs (dZ hs ha) hp aM)).trans (az.kill _ b h0)
 have e2:((L.cd [b]).put (some t) (.cr y)).kill b=(L.put (some t) (.cr y)).kill b:=by
  unfold St.kill
  congr 1
  funext c
  rw [mb,mb]
  by_cases oa:c=b
  ·simp [oa]
  ·simp only [St.cd,if_neg oa]
   cases L.heap c with
   | none=>rfl
   | some blk=>simp [oa]
 rw [<-e2]
 exact e1
theorem alw {P:Program} {L L0:St} {Q:ku->St->Prop} {ops:Array Oper} {id:Nat} (hw:az L L0) (h:jx P ops ops.size (rL ops.size false) L0 (Q .normal)):cP P (.region id ops true) Q L:=⟨L0,hw,.inr (.inl ⟨rfl,h⟩)⟩
def af9:List (Nat × bg)->List (Nat × bg)->Prop
 | [],_=>True
 | (b,x) :: t,l=>hp l b=some x/\af9 t l
theorem anQ {l':List (Nat × bg)}:∀ {l:List (Nat × bg)},af9 l l'->∀ c x,hp l c=some x->hp l' c=some x
 | [],_,c,x,h=>by cases h
 | (b,y) :: t,h,c,x,hc=>by
  simp only [hp] at hc
  by_cases hb:c=b
  ·subst hb
   simp only [Nat.beq_refl,cond_true,fB] at hc
   subst hc
   exact h.1
  ·have:oJ c b=false:=by rw [<-aaG,yD];exact hb
   rw [this] at hc
   exact anQ h.2 c x hc
theorem jG {l l':List (Nat × bg)} (h:af9 l l') (h':af9 l' l):hp l=hp l':=by
 funext c
 cases hc:hp l c with
 | some x=>exact(anQ h c x hc).symm
 | none =>
  cases hc':hp l' c with
  | none=>rfl
  | some x=>rw [anQ h' c x hc'] at hc;cases hc
def agi:Op->Bool
 | .store ..=>true
 | .build ..=>true
 | .box ..=>true
 | .alloc ..=>true
 | .buildSlice ..=>true
 | .makeSlice ..=>true
 | .call ⟨.value (.func _),_,_⟩=>true
 | .call ⟨.builtin .append,_,_⟩=>true
 | op=>nW op
section
variable {P:Program} {H:bW} {ρ rK:Operand->LV}
theorem akU {ps:Array (Nat × Operand)} (hr:∀ p∈ps.toList,rK p.2=ρ p.2):(ps.toList.map fun p=>(p.1,ρ p.2))=ps.toList.map fun p=>(p.1,rK p.2) :=
 rz fun p hp=>by rw [hr p hp]
theorem dE.adW {d:Nat} {op:Op} {r:LV} {blk:bg} (h:dE P ρ d op r blk) (hr:∀ x∈op.operands,rK x=ρ x):dE P rK d op r blk:=by
 cases h with
 | make hT hz hE dX hb hl hc kK hm fe=>exact .make hT hz hE dX hb ((hr _ bU).trans hl) ((hr _ bU).trans hc) kK hm fe
 | @lit T E n ps z sz hT hz hE dX hn h0 dO hp =>
  have hq:∀ p∈ps.toList,rK p.2=ρ p.2:=fun p hp=>hr _ (by simp only [Op.operands,awH];exact cQ.2 ⟨p,hp,rfl⟩)
  rw [akU hq]
  exact .lit hT hz hE dX hn h0 dO fun p kG=>by rw [hq p kG];exact hp p kG
 | aiJ hT hE=>exact .aiJ hT hE
 | @box T x aX =>
  have e:=hr x bU
  rw [<-e]
  rw [<-e] at aX
  exact .box aX
 | alloc hz=>exact .alloc hz
theorem aF.aAo {T:TypeId} {ps:Array (Nat × Operand)} {r:LV} (h:aF P H ρ (.build T ps) r) (hr:∀ x∈(Op.build T ps).operands,rK x=ρ x):aF P H rK (.build T ps) r:=by
 have hq:∀ p∈ps.toList,rK p.2=ρ p.2:=fun p hp=>hr _ (by simp only [Op.operands,awH];exact cQ.2 ⟨p,hp,rfl⟩)
 cases h with
 | aaW hT hE hf hz hp =>
  rw [akU hq]
  exact .aaW hT hE hf hz fun p kG=>by rw [hq p kG];exact hp p kG
 | build hT hz hp =>
  rw [akU hq]
  exact .build hT hz fun p kG=>by rw [hq p kG];exact hp p kG
end
theorem aHY (L:St) {d:Nat} {v:LV} (hv:∀ b,v.kill b=v) (b:Nat):(L.put (some d) v).kill b=(L.kill b).put (some d) v:=by
 have h1:∀ t,((L.put (some d) v).kill b).slot t=((L.kill b).put (some d) v).slot t:=fun t=>by
  rw [iz]
  show (((L.put (some d) v).slot t).kill b)=_
  rw [iz]
  split
  ·exact hv b
  ·rfl
 exact congrArg (fun f=>St.mk f (L.kill b).heap) (funext h1)
section
variable {P:Program} {ops:Array Oper}
def anV (L:St):List Operand->Prop
 | []=>True
 | x :: xs=>(∀ b,(L.ev x).kill b=L.ev x)/\anV L xs
theorem aqq {L:St}:∀ {l:List Operand},anV L l->∀ x∈l,∀ b,(L.ev x).kill b=L.ev x
 | _ :: _,h,_,.head _=>h.1
 | _ :: _,h,_,.tail _ hx=>aqq h.2 _ hx
theorem iQ {p:Prop} (h:p:=by first | exact And.intro (fun _=>rfl) trivial | exact And.intro (fun _=>rfl) (And.intro (fun _=>rfl) trivial) | exact And.intro (fun b=>LV.mr b _ pu) trivial):p:=h
theorem lD {p:Prop} (h:p:=by first | exact(fun _=>rfl) | exact(fun b=>LV.mr b _ pu) | exact(fun b=>LV.mr b _ (by assumption))):p:=h
end
section
variable {P:Program} {ops:Array Oper}
inductive aKE (P:Program) (ops:Array Oper) (o:Oper) (L L':St):Prop
 | base (h:Step P false ops o L L')
 | hand {M:St} {t b sz len:Nat} {vals:List LV} {m:Bool} (h:Step P false ops o L M) (ht:M.slot t=.ref b sz 0 len) (hb:M.heap b=some ⟨sz,vals,m⟩) (hp:aN vals=true) (hl:len=vals.length) (h0:b≠0)
   (e:L'=(M.put (some t) (.list sz vals)).kill b)
section
variable {D:Array Bool} {L:St} {K:St->Prop} {fuel:Nat}
end
section
variable {W w:World} {X:XS} {Z0:Nat->Prop} {a:Act} {n:Nat}
end
end
def z7:Op->Bool
 | .extract ..=>true
 | .assign _=>true
 | op=>agi op
section
variable {P:Program} {H:bW} {ρ rK:Operand->LV}
theorem nC.ary {d:Nat} {op:Op} {r:LV} {fr:List (Nat × bg)} (nD:nC P H ρ d op r fr) (hk:z7 op=true) (hr:∀ x∈op.operands,rK x=ρ x):nC P H rK d op r fr:=by
 cases nD with
 | pure hp =>
  by_cases gO:nW op=true
  ·exact .pure (hp.adW gO hr)
  ·by_cases hbq:∃ T ps,op=.build T ps
   ·obtain⟨T,ps,rfl⟩:=hbq
    exact .pure (hp.aAo hr)
   ·cases hp with
    | abj hf ry hb hn he hx h1' h1 h2 =>
     refine .pure (.abj hf ry hb hn he ?_ h1' h1 h2)
     rw [<-hx]
     exact rz fun x w8=>hr x (yJ w8)
    | assign x=>rw [<-hr x bU];exact .pure (.assign x)
    | extract ht hq aX=>exact .pure (.extract ((hr _ bU).trans ht) hq aX)
    | build=>exact absurd ⟨_,_,rfl⟩ hbq
    | aaW=>exact absurd ⟨_,_,rfl⟩ hbq
    | _=>first | (exfalso;exact gO rfl) | (exfalso;revert hk gO;simp [z7,agi,nW])
 | alloc ha=>exact .alloc (ha.adW hr)
 | call hc =>
  cases hc with
  | func ha hkk hlen oG =>
   refine .call (.func ?_ hkk hlen oG)
   rw [show (_:Array Operand).toList.map rK=_ from rz fun x w8=>hr x (yJ w8)]
   exact ha
  | dq=>exfalso;revert hk;simp [z7,agi,nW]
  | mk=>exfalso;revert hk;simp [z7,agi,nW]
end
section
variable {P:Program} {ops:Array Oper}
theorem aGp {L L2:St} {d:Nat} {v:LV} {o:Oper} (hv:∀ b,v.kill b=v) (hk:z7 o.op=true) (hl:d∉o.looksAt ops) (hd:o.dst≠some d) (h:Step P false ops o (L.put (some d) v) L2) :
  ∃ L1,Step P false ops o L L1/\L2=L1.put (some d) v/\∀ t,o.dst≠some t->(∀ b,(L.slot t).kill b=L.slot t)->L1.slot t=L.slot t:=by
 have gW:=auj (L:=L) (v:=v) hl
 have k6:∀ (M:St) (r:LV) t,M.slot t=L.slot t->o.dst≠some t->(M.put o.dst r).slot t=L.slot t:=fun M r t hM aX=>by
  cases hh:o.dst with
  | none=>exact hM
  | some e=>rw [iz,if_neg (fun q=>aX (by rw [hh,q]))];exact hM
 cases h with
 | skip hg hL=>exact⟨L.put o.dst (.bf []),.skip (uk hl hg) rfl,by rw [hL,tI L hd],fun t ht _=>k6 L _ t rfl ht⟩
 | @val r fr H1 hg hle dQ nD hL =>
  obtain⟨dst,op,ty,pos,after,gd⟩:=o
  have agy:∀ x∈op.operands,L.ev x=(L.put (some d) v).ev x:=fun x hx=>(gW x hx).symm
  have adf:nC P H1 L.ev (dst.getD 0) op r fr:=nD.ary hk agy
  refine⟨⟨(L.put dst r).slot,H1⟩,.val (uk hl hg) hle dQ adf rfl,?_,fun t ht _=>k6 L r t rfl ht⟩
  rw [hL]
  have:=tI L hd v r
  exact congrArg (fun M=>St.mk (St.slot M) H1) this
 | st hg r8 =>
  obtain⟨dst,op,ty,pos,after,gd⟩:=o
  cases r8 with
  | store hp hb hs hm hi hy nF hT aX =>
   rename_i T p x b sz i o' blk y y'
   have e1:=gW p bU
   have e2:=gW x bU
   rw [e1] at hp
   rw [e2] at nF hT aX
   refine⟨_,.st (uk hl hg) (.store hp hb hs hm hi hy nF hT aX),?_,fun t ht _=>?_⟩
   ·exact tI (L.bO b _) hd v .any
   ·exact k6 (L.bO b _) .any t rfl ht
  | iJ hx hb hs hm hlen gz gE hT hU hz hE dX l6 hy bI gU dO =>
   rename_i T U E E' d' b sz len blk x y news z dP
   have e1:=gW x lZ
   have e2:=gW y lZ
   rw [e1] at hx
   rw [e2] at hy
   refine⟨_,.st (uk hl hg) (.iJ hx hb hs hm hlen gz gE hT hU hz hE dX l6 hy bI gU dO),?_,fun t ht hf=>?_⟩
   ·rw [aHY L hv]
    exact tI ((L.kill b).bO d' _) hd v _
   ·exact k6 ((L.kill b).bO d' _) _ t (hf b) ht
  | afl hx gz hT hU hz hE dX l6 hy hn bI gU dO =>
   rename_i T U E E' d' sz x y news z dP
   have e1:=gW x lZ
   have e2:=gW y lZ
   rw [e1] at hx
   rw [e2] at hy
   refine⟨_,.st (uk hl hg) (.afl hx gz hT hU hz hE dX l6 hy hn bI gU dO),?_,fun t ht hf=>?_⟩
   ·exact tI (L.bO d' _) hd v _
   ·exact k6 (L.bO d' _) _ t rfl ht
  | _=>exfalso;revert hk;simp [z7,agi,nW]
 | stM im hg lH =>
  obtain⟨dst,op,ty,pos,after,gd⟩:=o
  cases lH with
  | call hb hm hp ha hn hkk qH kG =>
   rename_i f xs ve args r b blk blk'
   have em:xs.toList.map (L.put (some d) v).ev=xs.toList.map L.ev:=rz fun x w8=>gW x (yJ w8)
   rw [em] at ha hn
   refine⟨_,.stM im (uk hl hg) (.call hb hm hp ha hn hkk qH kG),?_,fun t ht _=>?_⟩
   ·exact tI (L.bO b _) hd v _
   ·exact k6 (L.bO b _) _ t rfl ht
  | agl hT hU hz hE dX hb hx lX oM hlen hy gz hgr dO hm gU =>
   rename_i T U E x y z k kl sz dP len cp n d' b blk
   rw [gW x lZ] at hx
   rw [gW y lZ] at hy
   refine⟨_,.stM im (uk hl hg) (.agl hT hU hz hE dX hb hx lX oM hlen hy gz hgr dO hm gU),?_,fun t ht _=>?_⟩
   ·exact tI (L.bO d' _) hd v _
   ·exact k6 (L.bO d' _) _ t rfl ht
  | ovl hf ry hb hn he ht hE hx hy vK h1 h2 dO =>
   rw [gW _ (yJ aM)] at hx
   rw [gW _ (yJ aM)] at hy
   refine⟨_,.stM im (uk hl hg) (.ovl hf ry hb hn he ht hE hx hy vK h1 h2 dO),?_,fun t ht _=>?_⟩
   ·exact tI L hd v _
   ·exact k6 L _ t rfl ht
  | ajg hT hU hz hE dX hb hx hy gz h0 dO hm gU =>
   rename_i T U E x y z k kl sz dP n d'
   have e1:=gW x lZ
   have e2:=gW y lZ
   rw [e1] at hx
   rw [e2] at hy
   refine⟨_,.stM im (uk hl hg) (.ajg hT hU hz hE dX hb hx hy gz h0 dO hm gU),?_,fun t ht _=>?_⟩
   ·exact tI (L.bO d' _) hd v _
   ·exact k6 (L.bO d' _) _ t rfl ht
def awW (ops:Array Oper) (i:Nat) (D:Array Bool):Bool :=
 D.size==ops.size && !D.getD i true && (jZ (ops.getD i default)).all (fun j=>D.getD j false) && (ops.getD i default).guard.isNone && z7 (ops.getD i default).op &&
 (c9 ops.size).all fun j=>j==i || D.getD j true || (z7 (ops.getD j default).op && ((ops.getD j default).dst != (ops.getD i default).dst) &&
  (match (ops.getD i default).dst with | some d=>!((ops.getD j default).looksAt ops).contains d || (jZ (ops.getD j default)).contains i | none=>false) &&
  (match (ops.getD j default).dst with | some e=>!((ops.getD i default).looksAt ops).contains e | none=>true))
theorem iP {m:Nat} {K:St->Prop} {L:St} {D:Array Bool} {d:Nat} {v:LV} (i:Nat) {o:Oper} (ho:ops[i]?=some o) (adH:o.dst=some d) (fT:awW ops i D=true) (hv:nC P (fun _=>none) L.ev d o.op v [])
  (hfv:∀ b,v.kill b=v) (hfo:anV L o.op.operands.toList)
  (h:jx P ops m (D.setIfInBounds i true) (L.put (some d) v) K):jx P ops (m+1) D L K:=by
 have ir:∀ i o,ops[i]?=some o->ops.getD i default=o:=fun i o h=>by rw [dG,h];rfl
 have s8:i<ops.size:=(nA.1 ho).1
 let C:Array Bool->Prop:=fun D=>D.size=ops.size/\D.getD i false=false/\(∀ j∈jZ o,D.getD j false=true)/\∀ j oj,ops[j]?=some oj->j≠i->D.getD j false=false ->
  z7 oj.op=true/\oj.dst≠some d/\(d∈oj.looksAt ops->i∈jZ oj)/\∀ e,oj.dst=some e->e∉o.looksAt ops
 unfold awW at fT
 rw [ir i o ho,adH] at fT
 simp only [kI,pO,qy,oN,beq_iff_eq,xC,xy,bne_iff_ne,ne_eq] at fT
 obtain⟨⟨⟨⟨⟨bI,tq⟩,xq⟩,hgd⟩,ajk⟩,eO⟩:=fT
 have hC:C D:=by
  refine⟨bI,by rw [vr ae false true];exact tq,xq,fun j oj hj aX xH=>?_⟩
  have hjl:j<ops.size:=(nA.1 hj).1
  have:=eO j hjl
  rw [ir j oj hj] at this
  rcases this with(q | q) | q
  ·exact absurd q aX
  ·rw [vr ae true false,xH] at q;cases q
  ·obtain⟨⟨⟨q1,q2⟩,q3⟩,q4⟩:=q
   refine⟨q1,q2,fun hm=>?_,fun e he hm=>?_⟩
   ·rcases q3 with q | q
    ·rw [pS.2 hm] at q;cases q
    ·exact pS.1 q
   ·rw [he] at q4
    simp only [xC] at q4
    rw [pS.2 hm] at q4;cases q4
 have agA:∀ L:St,nC P (fun _=>none) L.ev d o.op v []->Step P false ops o L (L.put (some d) v):=fun L hv=>by
  refine .val (fr:=[]) (H1:=L.heap) (r:=v) (by unfold ef;rw [hgd]) (bW.le_refl _) (fun _ _ hh=>by cases hh) (by rw [adH];exact hv.le fun b blk h=>by cases h) ?_
  rw [adH];rfl
 clear bI tq xq eO
 have az6:∀ x∈o.op.operands,∀ b,(L.ev x).kill b=L.ev x:=fun x hx=>aqq hfo x (af0.2 hx)
 clear hfo
 have main:∀ (n:Nat) (D:Array Bool) (L:St),C D->nC P (fun _=>none) L.ev d o.op v []->(∀ x∈o.op.operands,∀ b,(L.ev x).kill b=L.ev x)->jx P ops n (D.setIfInBounds i true) (L.put (some d) v) K->jx P ops (n+1) D L K:=by
  intro n
  induction n with
  | zero =>
   intro D L ⟨c1,c2,c3,c4⟩ hv _ hh
   have ub:i∈Region.ready .any ops D:=(qD c1).2 ⟨o,ho,by rw [vr ae true false];exact c2,c3⟩
   refine⟨fun hr=>(by rw [hr] at ub;cases ub),fun j hj=>?_⟩
   by_cases lP:j=i
   ·subst lP
    exact⟨o,_,ho,agA L hv,hh⟩
   ·exfalso
    obtain⟨oj,h1,h2,h3⟩:=(qD c1).1 hj
    have:j∈Region.ready .any ops (D.setIfInBounds i true):=(qD (by simpa using c1)).2 ⟨oj,h1,by
     rw [dG,ka (Ne.symm lP),<-dG];exact h2,fun k hk=>by
     by_cases qG:i=k
     ·subst qG
      rw [dG,oz ae];rfl
     ·rw [dG,ka qG,<-dG];exact h3 k hk⟩
    rw [hh.1] at this;cases this
  | succ n ih =>
   intro D L ⟨c1,c2,c3,c4⟩ hv hfo hh
   have ub:i∈Region.ready .any ops D:=(qD c1).2 ⟨o,ho,by rw [vr ae true false];exact c2,c3⟩
   refine⟨fun hr=>(by rw [hr] at ub;cases ub),fun j hj=>?_⟩
   by_cases lP:j=i
   ·subst lP
    exact⟨o,_,ho,agA L hv,hh⟩
   ·obtain⟨oj,h1,h2,h3⟩:=(qD c1).1 hj
    have hjl:j<ops.size:=(nA.1 h1).1
    have xH:D.getD j false=false:=by rw [vr ae false true];exact h2
    have aos:j∈Region.ready .any ops (D.setIfInBounds i true):=(qD (by simpa using c1)).2 ⟨oj,h1,by
     rw [dG,ka (Ne.symm lP),<-dG];exact h2,fun k hk=>by
     by_cases qG:i=k
     ·subst qG
      rw [dG,oz ae];rfl
     ·rw [dG,ka qG,<-dG];exact h3 k hk⟩
    obtain⟨oj',L2,g1,g2,g3⟩:=hh.2 j aos
    rw [h1] at g1;cases g1
    obtain⟨k1,k2,k3,k4⟩:=c4 j oj h1 lP xH
    have nj:d∉oj.looksAt ops:=fun hm=>by
     have:=h3 i (k3 hm)
     rw [c2] at this;cases this
    obtain⟨L1,s1,s2,s3⟩:=aGp hfv k1 nj k2 g2
    have acC:∀ x∈o.op.operands,L1.ev x=L.ev x:=fun x hx=>by
     cases x with
     | tmp t =>
      have ht:t∈o.looksAt ops:=by
       unfold Oper.looksAt
       simp only [o8,yL]
       exact .inl ⟨.tmp t,by simpa using hx,rfl⟩
      exact s3 t (fun q=>k4 t q ht) (hfo _ hx)
     | const v=>rfl
     | func f=>rfl
     | global f=>rfl
    refine⟨oj,L1,h1,s1,ih (D.setIfInBounds j true) L1 ⟨by simpa using c1,?_,fun k hk=>?_,fun k ok hk aX fo=>?_⟩ (hv.ary ajk acC) (fun x hx b=>by rw [acC x hx];exact hfo x hx b) ?_⟩
    ·rw [dG,ka lP,<-dG];exact c2
    ·by_cases vJ:j=k
     ·subst vJ
      rw [dG,oz ae];rfl
     ·rw [dG,ka vJ,<-dG];exact c3 k hk
    ·by_cases vJ:j=k
     ·subst vJ
      rw [dG,oz ae] at fo
      cases fo
     ·rw [dG,ka vJ,<-dG] at fo
      exact c4 k ok hk aX fo
    ·rw [<-s2]
     have:(D.setIfInBounds j true).setIfInBounds i true=(D.setIfInBounds i true).setIfInBounds j true:=by
      refine ap0 fun k=>?_
      by_cases q1:i=k
      ·subst q1
       rw [oz bz,ka lP,oz ae]
      ·by_cases q2:j=k
       ·subst q2
        rw [ka q1,oz ae,oz bz]
       ·rw [ka q1,ka q2,ka q2,ka q1]
     rw [this];exact g3
 exact main m D L hC hv az6 h
end
section
variable {P:Program} {W w w':World} {X:XS} {Z0 Z Zr:Nat->Prop} {μ ec:Nat->Option Nat} {H:bW} {a:Act} {L L':St} {n:Nat} {ops:Array Oper}
def afG (P:Program) (ops:Array Oper) (o:Oper) (L L':St):Prop :=
 ∀ (n:Nat) (W:World) (X:XS) (Z0:Nat->Prop) (a:Act) (w:World) (K:Act->World->Prop) (Q:Exit->Act->World->Prop),gi n W X Z0 L a w->(∀ t,o.dst=some t->t<n) ->
  (∀ a' w',gi n W X Z0 L' a' w'->K a' w')->if Region.wanted o (yielded ops a.tmps) then o.wp P a w K Q else K (a.put o.dst undef) w
variable {Q:ku->St->Prop}
end
end Go.Lg
namespace Go.Lg
section
variable {P:Program} {W w w':World} {X X0:XS} {Z0 Z Zr:Nat->Prop} {μ ec:Nat->Option Nat} {H H' Hr:bW} {a:Act} {L L':St} {n d:Nat} {ops:Array Oper} {σ:Nat->Nat}
def wL (μ ec:Nat->Option Nat) (d:Nat):Nat->Option Nat:=fun c=>if 1000000+d*16<c/\c<1000000+d*16+16 then(ec (c-(1000000+d*16))).or (μ c) else μ c
theorem Core.aJh (hc:Core W X Z0 μ Z H w) (hr:Core w X0 Z ec Zr Hr w') (hσ:∀ k id,ec k=some id->k≠0->k<16/\σ k=eE d k/\μ (eE d k)=none)
  (hb:∀ id,X0.x id->μ (σ 0)=some id/\¬ Z id) (hy:∀ id,X0.y id->(∀ c,μ c≠some id)/\¬ Z id/\(W.heap.size<=id\/X.y id)) (h0:∀ id,ec 0=some id->X0.x id) (hH:∀ k id blk,ec k=some id->Hr k=some blk->H' (σ k)=some ⟨blk.sz,dA σ blk.vals,blk.mt⟩)
  (hold:∀ c id,μ c=some id->¬ X0 id->H' c=H c) :
  Core W X Z0 (wL μ ec d) Zr H' w'/\(∀ c id,μ c=some id->wL μ ec d c=some id)/\Frame Z μ w w'/\(∀ k id,ec k=some id->wL μ ec d (σ k)=some id):=by
 have ai0:∀ c id,μ c=some id->wL μ ec d c=some id:=fun c id h=>by
  unfold wL
  split
  ·rename_i qm
   cases hq:ec (c-(1000000+d*16)) with
   | none=>simpa using h
   | some id' =>
    have:=(hσ _ _ hq ae).2.2
    have e:eE d (c-(1000000+d*16))=c:=by unfold eE;omega
    rw [e,h] at this;cases this
  ·exact h
 have aGk:∀ k id,ec k=some id->k≠0->wL μ ec d (eE d k)=some id:=fun k id h hk=>by
  have:=(hσ _ _ h hk).1
  unfold wL eE
  rw [if_pos ae]
  have e:1000000+d*16+k-(1000000+d*16)=k:=by omega
  rw [e,h];rfl
 have mP:∀ k id,ec k=some id->wL μ ec d (σ k)=some id:=fun k id h=>by
  by_cases hk:k=0
  ·subst hk;exact ai0 _ _ (hb id (h0 id h)).1
  ·rw [(hσ _ _ h hk).2.1];exact aGk k id h hk
 have hinv:∀ c id,wL μ ec d c=some id->(∃ k,k≠0/\c=eE d k/\ec k=some id)\/μ c=some id:=fun c id h=>by
  unfold wL at h
  split at h
  ·rename_i qm
   cases hq:ec (c-(1000000+d*16)) with
   | none=>rw [hq] at h;exact .inr nH
   | some id' =>
    rw [hq] at h
    simp only [Option.some_or,fB] at h
    subst h
    exact .inl ⟨c-(1000000+d*16),ae,by unfold eE;omega,hq⟩
  ·exact .inr h
 have cg:∀ k id,ec k=some id->k≠0->w.heap.size<=id\/X0.y id:=fun k id h hk=>by
  rcases hr.own k id h with h1 | h1 | h1
  ·exact .inl h1
  ·exact absurd (hr.x0 k id h h1) hk
  ·exact .inr h1
 have aah:∀ k id c,ec k=some id->k≠0->μ c=some id->False:=fun k id c h hk h1=>by
  rcases cg k id h hk with h2 | h2
  ·have:=hc.lt h1;omega
  ·exact(hy id h2).1 c h1
 have se:∀ k,k<w.heap.size->¬ X0 k->w'.heap[k]?=w.heap[k]?:=fun k hk hx=>hr.cE.block k hk hx
 have dQ:Frame Z μ w w':=by
  refine⟨fun id h=>se id (hc.mc id h) (fun e=>e.elim (fun e=>(hb id e).2 h) (fun e=>(hy id e).2.1 h)),fun c id h cc T fz rH=>?_⟩
  by_cases e:X0 id
  ·exact hr.cE.vT id e cc T fz rH
  ·exact⟨cc,(se id (hc.lt h) e).trans rH,rfl⟩
 have hX:∀ k,k<W.heap.size->¬ X k->¬ X0 k:=fun k hk hx e=>by
  rcases e with e | e
  ·rcases hc.own (σ 0) k (hb k e).1 with h | h
   ·omega
   ·exact hx h
  ·rcases(hy k e).2.2 with h | h
   ·omega
   ·exact hx (.inr h)
 refine⟨⟨?_,hr.mc,fun id h=>hr.jS id (hc.jS id h),?_,?_,?_,?_,hc.oZ,fun id h=>ai0 0 id (hc.x1 id h),?_,?_,?_⟩,ai0,dQ,mP⟩
 ·refine⟨hr.cE.os.trans hc.cE.os,hr.cE.tape.trans hc.cE.tape,hr.cE.output.trans hc.cE.output,ba hc.cE.size hr.cE.size,fun k hk hx=>?_,fun k hx c T fz h=>?_⟩
  ·exact(se k (by have:=hc.cE.size;omega) (hX k hk hx)).trans (hc.cE.block k hk hx)
  ·obtain⟨c',g1,g2⟩:=hc.cE.vT k hx c T fz h
   by_cases e:X0 k
   ·obtain⟨c2,g3,g4⟩:=hr.cE.vT k e c' T fz g1
    exact⟨c2,g3,g4.trans g2⟩
   ·exact⟨c',(se k (nA.1 g1).1 e).trans g1,g2⟩
 ·intro id h
  rcases hr.me id h with h | h | h
  ·exact hc.me id h
  ·exact .inr (.inl (ba hc.cE.size h))
  ·exact .inr (hy id h).2.2
 ·intro c c' id h h'
  rcases hinv c id h with⟨k,k0,rfl,h1⟩ | h1<;>rcases hinv c' id h' with⟨k',k0',rfl,h2⟩ | h2
  ·rw [hr.inj k k' id h1 h2]
  ·exact(aah k id _ h1 k0 h2).elim
  ·exact(aah k' id _ h2 k0' h1).elim
  ·exact hc.inj c c' id h1 h2
 ·intro c id h
  rcases hinv c id h with⟨k,k0,rfl,h1⟩ | h1
  ·rcases cg k id h1 k0 with h2 | h2
   ·exact .inl (ba hc.cE.size h2)
   ·exact(hy id h2).2.2.imp (fun h=>h) .inr
  ·exact hc.own c id h1
 ·intro c id h hx
  rcases hinv c id h with⟨k,k0,rfl,h1⟩ | h1
  ·exact(aah k id 0 h1 k0 (hc.x1 id hx)).elim
  ·exact hc.x0 c id h1 hx
 all_goals
  have xl:∀ c id,wL μ ec d c=some id->(∃ k blk,c=σ k/\ec k=some id/\Hr k=some blk/\u7 Zr ec w' blk id)\/(¬ X0 id/\μ c=some id):=fun c id h=>by
   rcases hinv c id h with⟨k,k0,rfl,h1⟩ | h1
   ·obtain⟨blk,g1,g2⟩:=hr.heap k id h1
    exact .inl ⟨k,blk,(hσ k id h1 k0).2.1.symm,h1,g1,g2⟩
   ·by_cases e:X0 id
    ·have e:X0.x id:=e.resolve_right (fun e=>(hy id e).1 c h1)
     have wH:=hc.inj c (σ 0) id h1 (hb id e).1
     have h2:=hr.x1 id e
     obtain⟨blk,g1,g2⟩:=hr.heap 0 id h2
     exact .inl ⟨0,blk,wH,h2,g1,g2⟩
    ·exact .inr ⟨e,h1⟩
 ·intro c id blk h g fQ hz
  rcases xl c id h with⟨k,b0,rfl,h1,g1,g2⟩ | ⟨e,h1⟩
  ·rw [hH k id b0 h1 g1] at g;cases g
   exact hr.jD k id b0 h1 g1 fQ hz
  ·rw [hold c id h1 e] at g
   rcases hr.me id hz with hz | hz | hz
   ·exact hc.jD c id blk h1 g fQ hz
   ·have:=hc.lt h1;omega
   ·exact(e (.inr hz)).elim
 ·intro c id blk h g fQ
  rcases xl c id h with⟨k,b0,rfl,h1,g1,g2⟩ | ⟨e,h1⟩
  ·rw [hH k id b0 h1 g1] at g;cases g
   exact hr.cd k id b0 h1 g1 fQ
  ·rw [hold c id h1 e] at g
   exact hr.jS id (hc.cd c id blk h1 g fQ)
 ·intro c id h
  rcases xl c id h with⟨k,b0,rfl,h1,g1,cc,T,part,rest,q1,q2,q3⟩ | ⟨e,h1⟩
  ·exact⟨_,hH k id b0 h1 g1,cc,T,part,rest,q1,q2,aS.bV σ mP _ _ _ q3⟩
  ·obtain⟨bk,g1,g2⟩:=hc.heap c id h1
   exact⟨bk,by rw [hold c id h1 e];exact g1,g2.mono hr.jS ai0 dQ (se id (hc.lt h1) e)⟩
def uL (blk:bg) (bs:List bg):bW:=fun n=>if n=0 then some blk else bs[n-1]?
def ur (σ:Nat->Nat):Nat->List bg->St->St
 | _,[],L=>L
 | k,b :: bs,L=>ur σ (k+1) bs (L.bO (σ k) (some ⟨b.sz,dA σ b.vals,b.mt⟩))
theorem ax3:∀ (bs:List bg) (k:Nat) (L:St),(ur σ k bs L).slot=L.slot
 | [],_,_=>rfl
 | b :: bs,k,L=>by rw [ur,ax3 bs];rfl
theorem ahs:∀ (bs:List bg) (k:Nat) (L:St) (c:Nat),(∀ j,k<=j->j<k+bs.length->c≠σ j)->(ur σ k bs L).heap c=L.heap c
 | [],_,_,_,_=>rfl
 | b :: bs,k,L,c,h=>by
   rw [ur,ahs bs (k+1) _ c (fun j h1 h2=>h j ae (by simp only [rC];omega))]
   show (if c=σ k then _ else L.heap c)=_
   rw [if_neg (h k (bq _) (by simp only [rC];omega))]
theorem aru:∀ (bs:List bg) (k:Nat) (L:St) (i:Nat) (b:bg),(∀ j j',k<=j->j<j'->j'<k+bs.length->σ j≠σ j')->bs[i]?=some b->(ur σ k bs L).heap (σ (k+i))=some ⟨b.sz,dA σ b.vals,b.mt⟩
 | [],_,_,i,_,_,h=>by simp at h
 | x :: xs,k,L,0,b,hi,h=>by
   simp only [rj,fB] at h;subst h
   show (ur σ k (x :: xs) L).heap (σ k)=_
   rw [ur,ahs xs (k+1) _ _ (fun j h1 h2=>hi k j (bq _) ae (by simp only [rC];omega))]
   simp [St.bO]
 | x :: xs,k,L,i+1,b,hi,h=>by
   rw [ur]
   have:=aru xs (k+1) (L.bO (σ k) (some ⟨x.sz,dA σ x.vals,x.mt⟩)) i b (fun j j' h1 h2 h3=>hi j j' ae h2 (by simp only [rC];omega)) nH
   rwa [show k+1+i=k+(i+1) by omega] at this
def nq (b d:Nat):Nat->Nat:=fun k=>if k=0 then b else eE d k
end
end Go.Lg
namespace Go.Lg
section
variable {P:Program} {W w w':World} {X X0:XS} {Z0 Z Zr:Nat->Prop} {μ ec:Nat->Option Nat} {H H' Hr:bW} {a:Act} {L L':St} {n d:Nat} {ops:Array Oper} {σ:Nat->Nat}
def sC (own:List Nat):Nat->Nat:=fun b=>if b=0 then 0 else own.idxOf b+1
def aat (μ:Nat->Option Nat) (own:List Nat):Nat->Option Nat:=fun k=>if k=0 then μ 0 else(own[k-1]?).bind μ
theorem aDN {own:List Nat} {k id:Nat} (hnd:own.Nodup) (h:aat μ own k=some id):(k=0/\μ 0=some id)\/∃ b,k≠0/\own[k-1]?=some b/\μ b=some id:=by
 unfold aat at h
 split at h
 ·rename_i e;exact .inl ⟨e,h⟩
 ·rename_i e
  rw [Option.bind_eq_some_iff] at h
  obtain⟨b,g1,g2⟩:=h
  exact .inr ⟨b,e,g1,g2⟩
theorem aIc {own:List Nat} {H:bW} (hc:∀ c id,μ c=some id->H c≠none) (abP:∀ c,c≠0->H c≠none->c∈own):∀ c id,μ c=some id->aat μ own (sC own c)=some id:=fun c id h=>by
 by_cases h0:c=0
 ·subst h0;simpa [sC,aat] using h
 ·have hm:=abP c h0 (hc c id h)
  have hl:=List.idxOf_lt_length_of_mem hm
  have he:own[own.idxOf c]?=some c:=by rw [b7 hl,List.getElem_idxOf hl]
  simp [sC,aat,h0,he,h]
theorem aoZ {bm:Nat->Option Nat} (f:Nat->Nat) (hm:∀ c id,μ c=some id->bm (f c)=some id) (hc:Core W X Z0 μ Z L.heap w) (hr:∀ t,bh Z μ w (L.slot t) (a.tmps.getD t undef)) :
  ∀ (rs:List ResultVar) (xs:List LV),zH P L rs xs->(∀ x∈xs,x≠.any/\∀ l,x≠.bf l)->∃ us,(rs.mapM (aaf a.tmps)).run P w=.ok us w/\gu Z bm w (dA f xs) us
 | _,_,.nil,_=>⟨[],rfl,rfl⟩
 | _,_,.cons (vs:=vs) (xs:=xs) h t,hx=>by
   obtain⟨u,q1,q2⟩:=al1 hc hr h (hx _ aM)
   obtain⟨us,q3,q4⟩:=aoZ f hm hc hr _ _ t (fun y hy=>hx y (by simp [hy]))
   refine⟨u :: us,?_,u,us,rfl,q2.bV f hm,q4⟩
   rw [List.mapM_cons,Sem.run_bind,q1]
   simp only [Result.andThen_ok,Sem.run_bind,q3,Sem.run_pure]
theorem aDC {ys:List LV} {us:List Value} (h:gu Z μ w ys us):bh Z μ w (ahr ys) (if h:us.toArray.size=1 then us.toArray[0] else .tuple us.toArray):=by
 have zT:=ab8 _ _ h
 match ys,us,h,zT with
 | [y],[u],q2,_ =>
  obtain⟨v,ks,e,g1,g2⟩:=q2
  simp only [fP] at e
  obtain⟨rfl,_⟩:=e
  have hnt:∀ l,y≠.bf l:=fun l e=>by subst e;have:=g1.2 rfl;simp [aB] at this
  exact bh.tw hnt g1
 | [],[],q2,_=>exact⟨_,rfl,by simpa using q2⟩
 | y :: y' :: ys,u :: u' :: us,q2,_=>exact⟨(u :: u' :: us).toArray,by simp,by simpa using q2⟩
theorem Core.aJx {own:List Nat} {Hr:bW} {bs:List bg} (hc:Core W X Z0 μ Z H w) (hnd:own.Nodup) (jn:0∉own) (abP:∀ c,c≠0->H c≠none->c∈own)
  (sB:∀ (k b:Nat),own[k]?=some b->∃ blk:bg,H b=some blk/\bs[k]?=some ⟨blk.sz,dA (sC own) blk.vals,blk.mt⟩)
  (fu:∀ k,k≠0->Hr k=bs[k-1]?) (uv:∀ id blk,μ 0=some id->H 0=some blk->Hr 0=some ⟨blk.sz,dA (sC own) blk.vals,blk.mt⟩) :
  Core W X Z0 (aat μ own) Z Hr w/\∀ c id,μ c=some id->aat μ own (sC own c)=some id:=by
 have hhm:∀ c id,μ c=some id->H c≠none:=fun c id h e=>by obtain⟨bk,g,_⟩:=hc.heap c id h;rw [e] at g;cases g
 have hm:=aIc (μ:=μ) (own:=own) hhm abP
 have xl:∀ k id,aat μ own k=some id->∃ c blk,μ c=some id/\H c=some blk/\u7 Z μ w blk id/\Hr k=some ⟨blk.sz,dA (sC own) blk.vals,blk.mt⟩/\((k=0/\c=0)\/(k≠0/\c≠0/\own[k-1]?=some c)):=fun k id h=>by
  rcases aDN hnd h with⟨rfl,h0⟩ | ⟨b,k0,g1,g2⟩
  ·obtain⟨blk,q1,q2⟩:=hc.heap 0 id h0
   exact⟨0,blk,h0,q1,q2,uv id blk h0 q1,.inl ⟨rfl,rfl⟩⟩
  ·obtain⟨blk,q1,q2⟩:=hc.heap b id g2
   obtain⟨blk',j1,j2⟩:=sB _ _ g1
   rw [q1] at j1;cases j1
   exact⟨b,blk,g2,q1,q2,by rw [fu k k0];exact j2,.inr ⟨k0,fun e=>jn (e ▸ sR g1),g1⟩⟩
 refine⟨⟨hc.cE,hc.mc,hc.jS,hc.me,?_,?_,?_,hc.oZ,fun id h=>by simpa [aat] using hc.x1 id h,?_,?_,?_⟩,hm⟩
 ·intro k k' id h h'
  obtain⟨c,_,g1,_,_,_,g2⟩:=xl k id h
  obtain⟨c',_,g1',_,_,_,g2'⟩:=xl k' id h'
  have e:=hc.inj c c' id g1 g1'
  subst e
  rcases g2 with⟨rfl,c0⟩ | ⟨k0,c0,q⟩<;>rcases g2' with⟨rfl,c0'⟩ | ⟨k0',c0',q'⟩
  ·rfl
  ·exact absurd c0 c0'
  ·exact absurd c0' c0
  ·obtain⟨l1,e1⟩:=pj.1 q
   obtain⟨l2,e2⟩:=pj.1 q'
   have hp:=List.pairwise_iff_getElem.1 hnd
   rcases Nat.lt_trichotomy (k-1) (k'-1) with h | h | h
   ·exact absurd (e1.trans e2.symm) (hp _ _ l1 l2 h)
   ·omega
   ·exact absurd (e2.trans e1.symm) (hp _ _ l2 l1 h)
 ·intro k id h
  obtain⟨c,_,g1,_⟩:=xl k id h
  exact hc.own c id g1
 ·intro k id h hx
  obtain⟨c,_,g1,_,_,_,g2⟩:=xl k id h
  have:=hc.x0 c id g1 hx
  rcases g2 with⟨rfl,_⟩ | ⟨_,c0,_⟩
  ·rfl
  ·exact absurd this c0
 ·intro k id blk h g fQ
  obtain⟨c,b0,g1,g2,g3,g4,_⟩:=xl k id h
  rw [g4] at g;cases g
  exact hc.jD c id b0 g1 g2 fQ
 ·intro k id blk h g fQ
  obtain⟨c,b0,g1,g2,g3,g4,_⟩:=xl k id h
  rw [g4] at g;cases g
  exact hc.cd c id b0 g1 g2 fQ
 ·intro k id h
  obtain⟨c,b0,g1,g2,⟨cc,T,part,rest,j1,j2,j3⟩,g4,_⟩:=xl k id h
  exact⟨_,g4,cc,T,part,rest,j1,j2,aS.bV _ hm _ _ _ j3⟩
def jm (b b':Nat):Nat->Nat:=fun k=>if k=b then b' else k
def St.move (L:St) (b b':Nat):St :=
 ⟨fun t=>(L.slot t).bV (jm b b'),fun c=>if c=b' then(L.heap b).map fun x=>⟨x.sz,dA (jm b b') x.vals,x.mt⟩ else if c=b then none else(L.heap c).map fun x=>⟨x.sz,dA (jm b b') x.vals,x.mt⟩⟩
theorem az.aC4 {L:St} {b b':Nat} (hb:b≠0) (qm:b'≠0) (aX:b≠b') (hf:L.heap b'=none):az L (L.move b b'):=by
 rintro n W X Z0 a w ⟨ey,bI,μ,Z,hc,hr⟩
 have uh:μ b'=none:=u4 hc hf
 let bm:Nat->Option Nat:=fun c=>if c=b' then μ b else if c=b then none else μ c
 have hm:∀ c id,μ c=some id->bm (jm b b' c)=some id:=fun c id h=>by
  by_cases e:c=b
  ·subst e;simp [bm,jm,h]
  ·have e':c≠b':=by rintro rfl;rw [uh] at h;cases h
   simp [bm,jm,e,e',h]
 have hinv:∀ c id,bm c=some id->∃ c0,μ c0=some id/\c=jm b b' c0:=fun c id h=>by
  simp only [bm] at h
  split at h
  ·rename_i e;exact⟨b,h,by simp [jm,e]⟩
  ·split at h
   ·cases h
   ·rename_i e1 e2;exact⟨c,h,by simp [jm,e2]⟩
 have yp:∀ c c' id id',μ c=some id->μ c'=some id'->jm b b' c=jm b b' c'->c=c':=fun c c' id id' h h' e=>by
  have e1:c≠b':=by rintro rfl;rw [uh] at h;cases h
  have e2:c'≠b':=by rintro rfl;rw [uh] at h';cases h'
  unfold jm at e
  split at e<;>split at e<;>first | omega | (subst_vars;first | rfl | (exact absurd rfl (by assumption)) | (exfalso;apply e2;exact e.symm) | (exfalso;apply e1;exact e))
 have hH:∀ c id blk,μ c=some id->L.heap c=some blk->(L.move b b').heap (jm b b' c)=some ⟨blk.sz,dA (jm b b') blk.vals,blk.mt⟩:=fun c id blk h g=>by
  by_cases e:c=b
  ·subst e;simp [St.move,jm,g]
  ·have e':c≠b':=by rintro rfl;rw [uh] at h;cases h
   simp [St.move,jm,e,e',g]
 refine⟨ey,bI,bm,Z,⟨hc.cE,hc.mc,hc.jS,hc.me,?_,?_,?_,hc.oZ,?_,?_,?_,?_⟩,fun t=>bh.bV _ hm (hr t)⟩
 ·intro c c' id h h'
  obtain⟨d,g1,rfl⟩:=hinv c id h
  obtain⟨d',g2,rfl⟩:=hinv c' id h'
  rw [hc.inj d d' id g1 g2]
 ·intro c id h
  obtain⟨d,g1,rfl⟩:=hinv c id h
  exact hc.own d id g1
 ·intro c id h hx
  obtain⟨d,g1,rfl⟩:=hinv c id h
  have:=hc.x0 d id g1 hx
  subst this
  simp [jm,Ne.symm hb]
 ·intro id h
  have:=hm 0 id (hc.x1 id h)
  simpa [jm,Ne.symm hb] using this
 ·intro c id blk h g fQ
  obtain⟨d,g1,rfl⟩:=hinv c id h
  obtain⟨b0,j1,j2⟩:=hc.heap d id g1
  rw [hH d id b0 g1 j1] at g;cases g
  exact hc.jD d id b0 g1 j1 fQ
 ·intro c id blk h g fQ
  obtain⟨d,g1,rfl⟩:=hinv c id h
  obtain⟨b0,j1,j2⟩:=hc.heap d id g1
  rw [hH d id b0 g1 j1] at g;cases g
  exact hc.cd d id b0 g1 j1 fQ
 ·intro c id h
  obtain⟨d,g1,rfl⟩:=hinv c id h
  obtain⟨b0,j1,cc,T,part,rest,q1,q2,q3⟩:=hc.heap d id g1
  exact⟨_,hH d id b0 g1 j1,cc,T,part,rest,q1,q2,aS.bV _ hm _ _ _ q3⟩
theorem axI {b b':Nat} (f:bg->bg) (aX:b≠b'):∀ (l:List (Nat × bg)),(∀ p∈l,p.1≠b')->∀ c,hp (l.map fun p=>(jm b b' p.1,f p.2)) c=if c=b' then(hp l b).map f else if c=b then none else(hp l c).map f
 | [],_,c=>by simp [hp]
 | (d,y) :: t,hl,c=>by
   have ih:=axI f aX t (fun p hp=>hl p (by simp [hp])) c
   have hd:d≠b':=hl (d,y) aM
   have hpc:∀ (e:Nat) (z:bg) (u:List (Nat × bg)) (x:Nat),hp ((e,z) :: u) x=if x=e then some z else hp u x:=fun e z u x=>by
    simp only [hp]
    by_cases h:x=e
    ·simp [h]
    ·have:oJ x e=false:=by rw [<-aaG,yD];exact h
     rw [this,if_neg h];rfl
   simp only [nZ,hpc,ih]
   by_cases h1:d=b
   ·subst h1
    simp only [jm,if_true]
    by_cases h2:c=b'
    ·simp [h2]
    ·by_cases h3:c=d
     ·subst h3;simp [h2]
     ·simp [h2,h3]
   ·have e1:jm b b' d=d:=by simp [jm,h1]
    rw [e1]
    by_cases h2:c=b'
    ·subst h2
     have:c≠d:=fun e=>hd e.symm
     simp [this,Ne.symm h1]
    ·by_cases h3:c=b
     ·subst h3
      simp [h2,Ne.symm h1]
     ·by_cases h4:c=d
      ·subst h4;simp [h2,h3]
      ·simp [h2,h3,h4]
theorem az.aJC {L:St} {b b':Nat} {l:List (Nat × bg)} (hl:L.heap=hp l) (hb:b≠0) (qm:b'≠0) (aX:b≠b') :
  az L ⟨fun t=>((L.slot t).kill b').bV (jm b b'),hp ((pH b' l).map fun p=>(jm b b' p.1,(⟨p.2.sz,dA (jm b b') p.2.vals,p.2.mt⟩:bg)))⟩:=by
 have hk:(L.kill b').heap=hp (pH b' l):=by
  funext c
  rw [agM]
  simp only [St.kill,hl]
 have hn:∀ p∈pH b' l,p.1≠b':=by
  clear hk hl
  induction l with
  | nil=>simp [pH]
  | cons q t ih =>
   obtain⟨d,y⟩:=q
   simp only [pH]
   by_cases h:d=b'
   ·subst h;simpa using ih
   ·have:oJ d b'=false:=by rw [<-aaG,yD];exact h
    rw [this]
    simp only [cond_false,fx]
    rintro p (rfl | hp)
    ·exact h
    ·exact ih p hp
 refine(az.kill L b' qm).trans ((az.aC4 (b:=b) (b':=b') hb qm aX (by simp [St.kill])).trans (az.of_eq ?_))
 simp only [St.move,St.mk.injEq]
 refine⟨rfl,?_⟩
 funext c
 rw [axI (fun x=>⟨x.sz,dA (jm b b') x.vals,x.mt⟩) aX _ hn c,hk]
end
section
variable {Z Z':Nat->Prop} {μ bm:Nat->Option Nat} {w:World}
mutual
theorem LV.akn (f:Nat->Nat):∀ (x:LV),(x.bV f).pure=x.pure
 | .any=>rfl
 | .v _=>rfl
 | .list sz l=>by simp only [LV.bV,LV.pure,ad4 f l]
 | .agg l=>by simp only [LV.bV,LV.pure,ad4 f l]
 | .ref ..=>rfl
 | .kC ..=>rfl
 | .aD ..=>rfl
 | .cr c=>by simp only [LV.bV,LV.pure,LV.akn f c]
 | .dq g l=>by simp only [LV.bV,LV.pure,ad4 f l]
 | .bf l=>by simp [LV.bV,LV.pure]
theorem ad4 (f:Nat->Nat):∀ (l:List LV),aN (dA f l)=aN l
 | []=>rfl
 | x :: xs=>by simp only [dA,aN,LV.akn f x,ad4 f xs]
end
mutual
theorem aB.unren (f:Nat->Nat) (hm:∀ b id,μ (f b)=some id->bm b=some id):∀ (lv:LV) (cs:List Value),aB Z μ w (lv.bV f) cs->aB Z bm w lv cs
 | .any,_,h=>by simpa [aB,LV.bV] using h
 | .v x,cs,h=>by simpa [aB,LV.bV] using h
 | .list sz l,cs,h=>by
   have h9:aN l=true:=by
    simp only [aB,LV.bV] at h
    obtain⟨a,len,cap,h1,h2,h3,h4,h9⟩:=h
    rwa [ad4] at h9
   rw [LV.di f (.list sz l) (by simpa [LV.pure] using h9)] at h
   exact aB.kW (fun _ h=>h) (fun _ _=>rfl) _ _ (by simpa [LV.pure] using h9) h
 | .agg l,cs,h=>by
   simp only [aB,LV.bV] at h ⊢
   exact cC.unren f hm l cs h
 | .ref b sz off len,cs,h=>by
   simp only [aB,LV.bV] at h ⊢
   rcases h with h | ⟨id,cap,c,T,fz,h1,h2,h3⟩
   ·exact rB
   exact .inr ⟨id,cap,c,T,fz,h1,hm _ _ h2,h3⟩
 | .kC b sz off len cap,cs,h=>by
   simp only [aB,LV.bV] at h ⊢
   obtain⟨id,c,T,fz,h1,h2,h3⟩:=h
   exact⟨id,c,T,fz,h1,hm _ _ h2,h3⟩
 | .aD b sz i o,cs,h=>by
   simp only [aB,LV.bV] at h ⊢
   obtain⟨id,h1,h2⟩:=h
   exact⟨id,h1,hm _ _ h2⟩
 | .cr c,cs,h=>by
   have h9:c.pure=true:=by
    simp only [aB,LV.bV] at h
    obtain⟨blk,off,cc,T,fz,part,rest,h1,h2,h3,h4,h5,h6,h7⟩:=h
    rwa [LV.akn] at h7
   rw [LV.di f (.cr c) (by simpa [LV.pure] using h9)] at h
   exact aB.kW (fun _ h=>h) (fun _ _=>rfl) _ _ (by simpa [LV.pure] using h9) h
 | .dq g cap,cs,h=>by
   have h9:aN cap=true:=by
    simp only [aB,LV.bV] at h
    obtain⟨vs,h1,h2,h3⟩:=h
    rwa [ad4] at h3
   rw [LV.di f (.dq g cap) (by simpa [LV.pure] using h9)] at h
   exact aB.kW (fun _ h=>h) (fun _ _=>rfl) _ _ (by simpa [LV.pure] using h9) h
 | .bf _,_,h=>by simp [aB,LV.bV] at h
theorem aS.unren (f:Nat->Nat) (hm:∀ b id,μ (f b)=some id->bm b=some id) (sz:Nat):∀ (l:List LV) (cs:List Value),aS Z μ w sz (dA f l) cs->aS Z bm w sz l cs
 | [],cs,h=>by simpa [aS,dA] using h
 | x :: xs,cs,h=>by
   simp only [aS,dA] at h ⊢
   obtain⟨c1,c2,h1,h2,h3,h4⟩:=h
   exact⟨c1,c2,h1,h2,aB.unren f hm x c1 h3,aS.unren f hm sz xs c2 h4⟩
theorem cC.unren (f:Nat->Nat) (hm:∀ b id,μ (f b)=some id->bm b=some id):∀ (l:List LV) (cs:List Value),cC Z μ w (dA f l) cs->cC Z bm w l cs
 | [],cs,h=>by simpa [cC,dA] using h
 | x :: xs,cs,h=>by
   simp only [cC,dA] at h ⊢
   obtain⟨c1,c2,h1,h2,h3,h4⟩:=h
   exact⟨c1,c2,h1,by rw [<-LV.ajs f];exact h2,aB.unren f hm x c1 h3,cC.unren f hm xs c2 h4⟩
end
theorem fS.unren (f:Nat->Nat) (hm:∀ b id,μ (f b)=some id->bm b=some id) {lv:LV} {v:Value} (h:fS Z μ w (lv.bV f) v):fS Z bm w lv v :=
 ⟨fun e=>let ⟨cs,h1,h2⟩:=h.1 (by rwa [LV.ahk]);⟨cs,h1,aB.unren f hm _ _ h2⟩,fun e=>aB.unren f hm _ _ (h.2 (by rwa [LV.ahk]))⟩
end
def XS.two (i0:Nat) (qP:Nat->Option Nat):XS:=⟨fun k=>k=i0,fun id=>∃ k,k≠0/\qP k=some id⟩
def aaR (P:Program) (f:FuncId) (blk c1:bg) (args:List LV) (r:LV) (blk':bg) (bs:List bg):Prop :=
 aiF P f/\∀ (W:World) (Z0:Nat->Prop) (vs:List Value) (i0:Nat) (qP:Nat->Option Nat),(∀ id,Z0 id->id<W.heap.size)->qP 0=some i0 ->
  (∀ k id,qP k=some id->¬ Z0 id/\∃ b,uL blk [c1] k=some b/\u7 Z0 qP W b id)->(∀ k k' id,qP k=some id->qP k'=some id->k=k')->gu Z0 qP W args vs ->
  Calls P f vs.toArray W fun e w'=>∃ v μ Z,e=.returned v/\Core W (XS.two i0 qP) Z0 μ Z (uL blk' bs) w'/\bh Z μ w' r v
def ak8 (P:Program) (rs:List ResultVar) (L:St) (r:LV) (blk':bg) (bs:List bg):Prop :=
 ∃ (xs:List LV) (own:List Nat) (b0:bg),L.heap 0=some b0/\blk'=⟨b0.sz,dA (sC own) b0.vals,b0.mt⟩/\zH P L rs xs/\(∀ x∈xs,x≠.any/\∀ l,x≠.bf l)/\own.Nodup/\0∉own/\(∀ c,c≠0->L.heap c≠none->c∈own) /\
  (∀ (k b:Nat),own[k]?=some b->∃ blk:bg,L.heap b=some blk/\bs[k]?=some ⟨blk.sz,dA (sC own) blk.vals,blk.mt⟩)/\r=ahr (dA (sC own) xs)
def amj (P:Program) (rs:List ResultVar) (L:St) (r:LV) (blk':bg) (bs:List bg):Prop:=∃ L0,az L L0/\ak8 P rs L0 r blk' bs
section
variable {P:Program} {W w w':World} {X X0:XS} {Z0 Z Zr:Nat->Prop} {μ ec:Nat->Option Nat} {H H' Hr:bW} {a:Act} {L L':St} {n d:Nat} {ops:Array Oper} {σ:Nat->Nat}
def StC (args:List LV) (blk c1:bg):St:=⟨fun t=>args.getD t .any,uL blk [c1]⟩
theorem aAE (args:List LV) (blk c1:bg):StC args blk c1=St.mk (fun t=>args.getD t .any) (hp [(0,blk),(1,c1)]):=by
 simp only [StC,St.mk.injEq,true_and]
 funext c
 simp only [hp,uL]
 match c with
 | 0=>rfl
 | 1=>rfl
 | c+2=>rw [if_neg ae,qR (show c+2≠0 by omega),qR (show c+2≠1 by omega)];simp
theorem aGM {f:FuncId} {fn:Func} {c:Code} {args:List LV} {r:LV} {blk c1 blk':bg} {bs:List bg} (iY:P.follows .mixedOrders=true) (hf:P.funcs[f]?=some fn) (hb:fn.body=some c)
  (hn:(fn.name== "runtime.NumGoroutine")=false) (hd:lV fn.ntmps c=true) (hlen:args.length<=fn.ntmps) (fQ:blk.mt=true) (alW:c1.mt=true)
  (h:cP P c (fun e L=>match e with | .exit _=>False | _=>amj P fn.results.toList L r blk' bs) (St.mk (fun t=>args.getD t .any) (hp [(0,blk),(1,c1)]))):aaR P f blk c1 args r blk' bs:=by
 rw [<-aAE] at h
 refine⟨⟨fn,hf,by rw [hb];rfl,hn⟩,fun W Z0 vs i0 qP hz h0 tp ac0 hargs=>?_⟩
 have sN:=ab8 _ _ hargs
 refine calls_of_wp hf hb ?_
 have aoX:∀ k id,qP k=some id->id<W.heap.size:=fun k id e=>by
  obtain⟨_,bk,_,c,T,part,rest,h1,_⟩:=tp k id e
  exact(nA.1 h1).1
 have aAR:∀ k bk,uL blk [c1] k=some bk->bk.mt=true:=fun k bk e=>by
  unfold uL at e
  split at e
  ·cases e;exact fQ
  ·rename_i hk
   have:=sR e
   simp only [gS] at this
   subst this;exact alW
 have pV:gi fn.ntmps W (XS.two i0 qP) Z0 (StC args blk c1) ⟨vs.toArray++rL (fn.ntmps-vs.toArray.size) undef,[]⟩ W:=by
  refine⟨rfl,by simp;omega,qP,Z0,⟨Kept.refl _ _,hz,fun _ h=>h,fun _ h=>.inl h,ac0,fun b id e=>?_,fun b id e hx=>?_,fun id e=>?_,fun id e=>?_,fun b id bk e _ _=>(tp b id e).1,
   fun b id bk e g hm=>?_,fun b id e=>?_⟩,fun t=>?_⟩
  ·by_cases gE:b=0
   ·subst gE;rw [h0] at e;cases e;exact .inr (.inl rfl)
   ·exact .inr (.inr ⟨b,gE,e⟩)
  ·rw [show id=i0 from hx] at e;exact ac0 _ _ _ e h0
  ·rcases e with e | ⟨k,_,e⟩
   ·rw [show id=i0 from e];exact aoX _ _ h0
   ·exact aoX _ _ e
  ·rw [show id=i0 from e];exact h0
  ·rw [aAR b bk g] at hm;cases hm
  ·exact(tp b id e).2
  ·have e:vs.toArray++rL (fn.ntmps-vs.toArray.size) undef=(vs++ay (fn.ntmps-vs.toArray.size) undef).toArray:=by apply vC;simp
   show bh Z0 qP W ((zY args).slot t) ((vs.toArray++rL (fn.ntmps-vs.toArray.size) undef).getD t undef)
   rw [e]
   exact ajD args vs _ hargs t
 refine wp_mono (aaq iY c _ _ _ _ pV h hd) fun e a w q=>?_
 have main:∀ L,amj P fn.results.toList L r blk' bs->gi fn.ntmps W (XS.two i0 qP) Z0 L a w ->
   a.defers=[]/\∃ v,(results fn a.tmps).run P w=.ok v w/\∃ v' μ Z,Ending.returned v=.returned v'/\Core W (XS.two i0 qP) Z0 μ Z (uL blk' bs) w/\bh Z μ w r v':=by
  rintro L ⟨L0,hwk,xs,own,b0,gE,aEP,h1,hx,h2,h3,h4,h5,h6⟩ hsL
  obtain⟨ey,bI,μ,Z,hc,hr⟩:=hwk _ _ _ _ _ _ hsL
  obtain⟨k1,k2⟩:=hc.aJx (Hr:=uL blk' bs) h2 h3 h4 h5 (fun k hk=>by simp [uL,hk]) (fun id blk e g=>by rw [gE] at g;cases g;simp [uL,aEP])
  obtain⟨us,q1,q2⟩:=aoZ (sC own) k2 hc hr _ _ h1 hx
  have qT:(fn.results.mapM (aaf a.tmps)).run P w=.ok us.toArray w:=by
   rw [Array.mapM_eq_mapM_toList,Sem.run_map,q1];rfl
  refine⟨ey,(if h:us.toArray.size=1 then us.toArray[0] else .tuple us.toArray),?_,_,_,Z,rfl,k1,?_⟩
  ·rw [akL,Sem.run_bind,qT]
   rfl
  ·subst h6;exact aDC q2
 cases e with
 | normal=>obtain⟨L,q1,q2⟩:=q;exact main L q1 q2
 | ret=>obtain⟨L,q1,q2⟩:=q;exact main L q1 q2
 | exit id=>obtain⟨L,q1,q2⟩:=q;exact q1.elim
 | _=>exact q.elim
def nmC (b c d:Nat):Nat->Nat:=fun k=>if k=0 then b else if k=1 then c else eE d 0
inductive age (H:bW) (σ:Nat->Nat):LV->LV->Prop
 | cF {x y} (h:cY H x y):age H σ x y
 | bV {y} (h:y≠.any/\∀ l,y≠.bf l):age H σ (y.bV σ) y
inductive afX (H:bW) (σ:Nat->Nat):List LV->List LV->Prop
 | nil:afX H σ [] []
 | cons {x y xs ys} (h:age H σ x y) (t:afX H σ xs ys):afX H σ (x :: xs) (y :: ys)
theorem age.sound (hc:Core W X Z0 μ Z H w) {x y:LV} {v:Value} (h:age H σ x y) (hr:bh Z μ w x v):fS Z (fun k=>μ (σ k)) w y v:=by
 cases h with
 | cF h=>exact cY.abT hc h hr
 | bV hn =>
  refine fS.unren σ (fun _ _ h=>h) ?_
  cases y with
  | any=>exact absurd rfl hn.1
  | bf l=>exact absurd rfl (hn.2 l)
  | _=>exact hr
theorem asf (hc:Core W X Z0 μ Z H w) {ρ:Operand->LV}:∀ (xs:List Operand) (args:List LV),afX H σ (xs.map ρ) args->(∀ x∈xs,bh Z μ w (ρ x) (a.eval x)) ->
  gu Z (fun k=>μ (σ k)) w args (xs.map a.eval)
 | [],_,h,_=>by cases h;rfl
 | x :: xs,_,h,hr=>by
   generalize hq:(x :: xs).map ρ=q at h
   cases h with
   | nil=>cases hq
   | cons h t =>
    simp only [nZ,fP] at hq
    obtain⟨rfl,rfl⟩:=hq
    exact⟨_,_,rfl,h.sound hc (hr x aM),asf hc xs _ t (fun y hy=>hr y (by simp [hy]))⟩
theorem art {f:FuncId} {xs:Array Operand} {ve:Array TypeId} {args:List LV} {r:LV} {b c sz csz:Nat} {vals cvals:List LV} {blk':bg} {bs:List bg} {dst:Option Tmp} {ty:TypeId} {pos:String} {af:Array Edge} {g:Option (Nat × Bool)} (d:Nat)
  (hg:ef ops L ⟨dst,.call ⟨.value (.func f),xs,ve⟩,ty,pos,af,g⟩ true) (vK:b≠c) (wH:c≠0)
  (hb:L.heap b=some ⟨sz,dA (nmC b c d) vals,true⟩) (oa:L.heap c=some ⟨csz,dA (nmC b c d) cvals,true⟩)
  (ha:afX L.heap (nmC b c d) (xs.toList.map L.ev) args) (hn:Names b (xs.toList.map L.ev))
  (hk:aaR P f ⟨sz,vals,true⟩ ⟨csz,cvals,true⟩ args r blk' bs) (hlen:bs.length<16) (hf:∀ k,k<16->L.heap (eE d k)=none) :
  afG P ops ⟨dst,.call ⟨.value (.func f),xs,ve⟩,ty,pos,af,g⟩ L ((ur (nq b d) 1 bs ((L.kill c).bO b (some ⟨blk'.sz,dA (nq b d) blk'.vals,blk'.mt⟩))).put dst (r.bV (nq b d))):=by
 intro n W X Z0 a w K Q ⟨ey,arS,μ,Z,hc,hr⟩ hd hK
 rw [acw hr hg]
 simp only [if_true]
 have iU:∀ t,dst=some t->t<a.tmps.size:=fun t h=>by rw [arS];exact hd t h
 obtain⟨i0,qt⟩:=Names.mu (μ:=μ) (Z:=Z) (w:=w) (a:=a) xs.toList hn (fun x _=>l9 (L:=L) hr x)
 have hargs:=asf (a:=a) hc xs.toList args ha (fun x _=>l9 (L:=L) hr x)
 have fw:(execOp a.eval (Oper.mk dst (.call ⟨.value (.func f),xs,ve⟩) ty pos af g)).run P w=.ok (.enter f (xs.map a.eval)) w:=by
  have:=aiI (P:=P) (w:=w) (args:=xs.map a.eval) hk.1
  simp only [execOp,resolve,Act.eval,Deferred.ofValue,Sem.run_bind,Sem.run_pure,Result.andThen_ok,invoke]
  simpa using this
 unfold Oper.wp
 rw [fw,Oper.upon_enter]
 have hun:μ (eE d 0)=none:=u4 hc (hf 0 ae)
 have ajn:∀ k id,μ (nmC b c d k)=some id->(k=0/\μ b=some id)\/(k=1/\μ c=some id):=fun k id e=>by
  unfold nmC at e
  split at e
  ·exact .inl ⟨by assumption,e⟩
  ·split at e
   ·exact .inr ⟨by assumption,e⟩
   ·rw [hun] at e;cases e
 have sY:=hc.jD b i0 _ qt hb rfl
 have:=hk.2 w Z (xs.toList.map a.eval) i0 (fun k=>μ (nmC b c d k)) hc.mc (by simpa [nmC] using qt) (fun k id e=>by
  rcases ajn k id e with⟨rfl,e1⟩ | ⟨rfl,e1⟩
  ·obtain⟨aiW,g1,cc,T,part,rest,q1,q2,q3⟩:=hc.heap b id e1
   rw [hb] at g1;cases g1
   exact⟨hc.jD b id _ e1 hb rfl,_,rfl,cc,T,part,rest,q1,q2,aS.unren _ (fun _ _ h=>h) _ _ _ q3⟩
  ·obtain⟨aiW,g1,cc,T,part,rest,q1,q2,q3⟩:=hc.heap c id e1
   rw [oa] at g1;cases g1
   exact⟨hc.jD c id _ e1 oa rfl,_,rfl,cc,T,part,rest,q1,q2,aS.unren _ (fun _ _ h=>h) _ _ _ q3⟩)
  (fun k k' id e e'=>by
   rcases ajn k id e with⟨rfl,e1⟩ | ⟨rfl,e1⟩<;>rcases ajn k' id e' with⟨rfl,e2⟩ | ⟨rfl,e2⟩
   ·rfl
   ·exact absurd (hc.inj _ _ _ e1 e2) vK
   ·exact absurd (hc.inj _ _ _ e2 e1) vK
   ·rfl) hargs
 rw [show (xs.toList.map a.eval).toArray=xs.map a.eval from by apply vC;simp] at this
 refine this.mono ?_
 rintro e w' ⟨v,ec,Zr,rfl,uM,hv⟩
 have ac0:∀ j j',1<=j->j<j'->j'<1+bs.length->nq b d j≠nq b d j':=fun j j' h1 h2 _ e=>by
  unfold nq at e
  rw [if_neg ae,if_neg ae] at e
  unfold eE at e;omega
 have awM:∀ k id,ec k=some id->k≠0->k<16/\∃ blk,bs[k-1]?=some blk:=fun k id h h0=>by
  obtain⟨bk,q1,_⟩:=uM.heap k id h
  simp only [uL,if_neg h0] at q1
  have:=(pj.1 q1).1
  exact⟨ae,bk,q1⟩
 have vn:=hc.kill c wH
 have hinv:∀ e id,kO μ c e=some id->e≠c/\μ e=some id:=fun e id h=>by
  unfold kO at h;split at h
  ·cases h
  ·exact⟨by assumption,h⟩
 have tK:kO μ c b=some i0:=by unfold kO;rw [if_neg vK];exact qt
 obtain⟨h1,h2,h3,h4⟩:=vn.aJh (d:=d) (σ:=nq b d) (H':=(ur (nq b d) 1 bs ((L.kill c).bO b (some ⟨blk'.sz,dA (nq b d) blk'.vals,blk'.mt⟩))).heap) uM
  (fun k id h h0=>⟨(awM k id h h0).1,by unfold nq;rw [if_neg h0],by
   unfold kO;split
   ·rfl
   ·exact u4 hc (hf k (awM k id h h0).1)⟩)
  (fun id e=>by rw [show id=i0 from e];exact⟨tK,sY⟩)
  (fun id ⟨k,k0,e⟩=>by
   rcases ajn k id e with⟨rfl,e1⟩ | ⟨rfl,e1⟩
   ·exact absurd rfl k0
   ·refine⟨fun e he=>(hinv e id he).1 (hc.inj _ _ _ (hinv e id he).2 e1),hc.jD c id _ e1 oa rfl,?_⟩
    rcases hc.own c id e1 with h | h | h
    ·exact rB
    ·exact absurd (hc.x0 c id e1 h) wH
    ·exact .inr h)
  (fun id h=>by have:=uM.x1 i0 rfl;rw [h] at this;cases this;rfl)
  (fun k id bk h g=>by
   by_cases h0:k=0
   ·subst h0
    simp only [uL,if_true,fB] at g;subst g
    rw [ahs _ _ _ _ (fun j h1 h2 e=>by
     unfold nq at e
     rw [if_pos rfl,if_neg ae] at e
     have:=hf j ae
     rw [<-e,hb] at this;cases this)]
    simp [St.bO,nq]
   ·simp only [uL,if_neg h0] at g
    have:=aru (σ:=nq b d) bs 1 ((L.kill c).bO b (some ⟨blk'.sz,dA (nq b d) blk'.vals,blk'.mt⟩)) (k-1) bk ac0 g
    rwa [show 1+(k-1)=k by omega] at this)
  (fun e id h ne=>by
   have aEh:e≠b:=by rintro rfl;rw [tK] at h;cases h;exact ne (.inl rfl)
   rw [ahs _ _ _ _ (fun j h1 h2 ej=>by
    have hj:=hf j ae
    unfold nq at ej
    rw [if_neg ae] at ej
    subst ej
    have:=(hinv _ _ h).2
    rw [u4 hc hj] at this;cases this)]
   simp [St.bO,aEh])
 refine hK _ _ ⟨by rw [put_defers];exact ey,by rw [r7];exact arS,_,Zr,by rw [mb];exact h1,?_⟩
 refine r9 (L:=ur (nq b d) 1 bs ((L.kill c).bO b (some ⟨blk'.sz,dA (nq b d) blk'.vals,blk'.mt⟩))) iU (fun t=>?_) (hv.bV _ h4)
 rw [ax3]
 exact(aeA c hr t).mono uM.jS h2 h3
end
end Go.Lg
namespace Go.Lg
theorem az.aE5 {L:St} {b d sz csz:Nat} {m:Bool} {vals apI:List LV} (aX:b≠d) (hd:L.heap d=none) (hb:L.heap b=some ⟨sz,vals,m⟩)
  (hv:∀ (Z:Nat->Prop) (μ:Nat->Option Nat) (w:World) (part:List Value),aS Z μ w sz vals part->aS Z μ w sz apI part) :
  az L ((L.bO d (some ⟨csz,[],true⟩)).bO b (some ⟨sz,apI,m⟩)):=by
 rintro n W X Z0 a w ⟨ey,bI,μ,Z,hc,hr⟩
 have kS:∀ id,μ d≠some id:=fun id e=>by rw [u4 hc hd] at e;cases e
 refine⟨ey,bI,μ,Z,⟨hc.cE,hc.mc,hc.jS,hc.me,hc.inj,hc.own,hc.x0,hc.oZ,hc.x1,fun c id blk g1 g2 g3=>?_,fun c id blk g1 g2 g3=>?_,fun c id g1=>?_⟩,hr⟩
 ·simp only [St.bO] at g2
  split at g2
  ·rename_i e;subst e;cases g2;exact hc.jD c id _ g1 hb g3
  ·split at g2
   ·rename_i e;subst e;exact absurd g1 (kS id)
   ·exact hc.jD c id blk g1 g2 g3
 ·simp only [St.bO] at g2
  split at g2
  ·rename_i e;subst e;cases g2;exact hc.cd c id _ g1 hb g3
  ·split at g2
   ·rename_i e;subst e;exact absurd g1 (kS id)
   ·exact hc.cd c id blk g1 g2 g3
 ·obtain⟨bk,j1,cc,T,part,rest,j2,j3,j4⟩:=hc.heap c id g1
  simp only [St.bO]
  split
  ·rename_i e;subst e
   rw [hb] at j1;cases j1
   exact⟨_,rfl,cc,T,part,rest,j2,j3,hv _ _ _ _ j4⟩
  ·split
   ·rename_i e;subst e;exact absurd g1 (kS id)
   ·exact⟨bk,j1,cc,T,part,rest,j2,j3,j4⟩
theorem aJN {p q:LV} {d c sz:Nat} (Z:Nat->Prop) (μ:Nat->Option Nat) (w:World) (part:List Value) (h:aS Z μ w sz [.agg [p,.v (.slice none 0 0),q]] part):aS Z μ w sz [.agg [p,.ref d c 0 0,q]] part:=by
 simp only [aS,aB,cC] at h ⊢
 obtain⟨c1,c2,h1,h2,⟨d1,d2,e1,e2,e3,f1,f2,g1,g2,g3,g4⟩,h3⟩:=h
 exact⟨c1,c2,h1,h2,⟨d1,d2,e1,e2,e3,f1,f2,g1,by simpa [LV.aw] using g2,.inl ⟨g3.1,trivial⟩,g4⟩,h3⟩
theorem az.aoF {L:St} {t b sz off len cp:Nat} (h:L.slot t=.kC b sz off len cp):az L (L.put (some t) (.ref b sz off len)):=by
 rintro n W X Z0 a w ⟨ey,bI,μ,Z,hc,hr⟩
 refine⟨ey,bI,μ,Z,by rw [mb];exact hc,fun s=>?_⟩
 rw [iz]
 split
 ·rename_i dj
  subst dj
  have e:=hr s
  rw [h] at e
  have e3:=e.2 rfl
  simp only [aB] at e3
  obtain⟨id,c,T,fz,q1,q2,q3,q4,q5⟩:=e3
  exact⟨by simp [LV.isAgg],fun _=>by simp only [aB];exact .inr ⟨id,cp,c,T,fz,q1,q2,q3,q4,q5⟩⟩
 ·exact hr s
theorem azG {P:Program} {f:FuncId} {blk c1 blk':bg} {sz n:Nat} {args:List LV} {r:LV} {bs:List bg} (hn:0<n) (h:∀ cp,n<=cp->aaR P f blk c1 (.kC 1 sz 0 n cp :: args) r blk' bs):aaR P f blk c1 (.ref 1 sz 0 n :: args) r blk' bs:=by
 refine⟨(h n (bq _)).1,fun W Z0 vs i0 qP hz h0 tp ac0 hargs=>?_⟩
 obtain⟨v,ks,rfl,hv,arL⟩:=hargs
 have h3:=hv.2 rfl
 simp only [aB] at h3
 rcases h3 with⟨_,e⟩ | ⟨id,cap,c,T,fz,q1,q2,q3,q4,q5⟩
 ·omega
 exact(h cap q3).2 W Z0 (v :: ks) i0 qP hz h0 tp ac0 ⟨v,ks,rfl,⟨by simp [LV.isAgg],fun _=>by simp only [aB];exact⟨id,c,T,fz,q1,q2,q3,q4,q5⟩⟩,arL⟩
theorem apy {P:Program} {L:St} {t b sz len:Nat} {b0:bg} {l:List (Nat × bg)} {v:List LV} (hs:L.slot t=.ref b sz 0 len) (hl:L.heap=hp l) (h0:hp l 0=some b0) (oR:aN b0.vals=true) (gE:b≠0)
  (abP:∀ c∈l.map (·.1),c≠0->c=b) (h1:hp l b=some ⟨sz,v,true⟩) (hv:aN v=true):ak8 P [.tmp t] L (.ref 1 sz 0 len) b0 [⟨sz,v,true⟩]:=by
 have hdm:∀ (l:List (Nat × bg)) (c:Nat),hp l c≠none->c∈l.map (·.1):=fun l=>by
  induction l with
  | nil=>exact fun c h=>absurd rfl h
  | cons p t ih =>
   obtain⟨d,y⟩:=p
   intro c h
   by_cases e:c=d
   ·simp [e]
   ·have:oJ c d=false:=by rw [<-aaG,yD];exact e
    simp only [hp,this,cond_false] at h
    simp only [nZ,fx]
    exact .inr (ih c h)
 have kK:sC [b] b=1:=by simp [sC,gE]
 refine⟨[.ref b sz 0 len],[b],b0,by rw [hl];exact h0,by rw [oI _ _ oR],.cons hs .nil,fun x hx=>by rw [gS.1 hx];exact⟨by simp,by simp⟩,by simp,by simpa using fun e:0=b=>gE e.symm,fun c hc hh=>?_,fun k c hk=>?_,?_⟩
 ·rw [hl] at hh
  exact gS.2 (abP c (hdm l c hh) hc)
 ·cases k with
  | zero =>
   simp only [rj,fB] at hk
   subst hk
   exact⟨⟨sz,v,true⟩,by rw [hl];exact h1,by simp only [rj,oI _ _ hv]⟩
  | succ k=>simp at hk
 ·simp only [dA,LV.bV,kK];rfl
end Go.Lg
end
section
set_option linter.unusedVariables false
set_option linter.unusedSimpArgs false
set_option maxHeartbeats 4000000
namespace Go.Lg
section
variable {P:Program} {W w:World} {X:XS} {Z0 Z:Nat->Prop} {μ:Nat->Option Nat} {a:Act} {n:Nat} {ops:Array Oper}
def aqj (P:Program) (l:List Oper) (m:Nat) (K:St->Prop) (L:St):Prop:=∃ o L2,l[m]?=some o/\afG P l.toArray o L L2/\K L2
theorem azY {l:List Oper} {id:Nat} {L:St} {Q:ku->St->Prop} (iY:P.follows .mixedOrders=true) (m:Nat) (hm:zn l.toArray m []=true) (hl:l.length=m+1) (h:opsL P true l.toArray (l.take m) L (aqj P l m (Q .normal))):cP P (.region id l.toArray true) Q L:=by
 refine aiY fun n W X Z0 a w hs hd id=>?_
 have iU:∀ o∈l.toArray.toList,∀ t,o.dst=some t->t<n:=fun o ho t ht=>by
  simp only [lV,pO] at hd
  have:=hd o ho
  rw [ht] at this
  simpa using this
 obtain⟨f,f0,fs,o9,L9,k1,k2,k3⟩:=aa1 _ _ h
 have bH:(l.take m).length=m:=by rw [eP];omega
 rw [bH] at k2
 unfold zn at hm
 simp only [kI,decide_eq_true_eq,pO,qy] at hm
 obtain⟨⟨⟨w7,h1⟩,h2⟩,h3⟩:=hm
 have ir:∀ i o,l.toArray[i]?=some o->l.toArray.getD i default=o:=fun i o h=>by rw [dG,h];rfl
 have ov:∀ i o,l.toArray[i]?=some o->i<l.toArray.size:=fun i o h=>(nA.1 h).1
 have bI:l.toArray.size=m+1:=by simpa using hl
 have pX:=aej l.toArray l.toArray.toList [] (fun i=>by simp) (fun i t h=>by simp at h)
 let g:Nat->St:=fun i=>if i<=m then f i else L9
 have gl:∀ i,i<=m->g i=f i:=fun i hi=>if_pos hi
 have gm:g (m+1)=L9:=if_neg ae
 refine ams (m:=m) (fr:=[]) (f:=g) (K:=Q .normal) (L:=L) iY hs (by rw [gl 0 (b8 _)];exact f0) (fun i o ho hor=>?_) (fun i o ho jd=>?_) (by rw [bI,gm];exact k3) w7 (fun i o h j hj=>?_) (fun i o h yp j hj=>?_) (fun i o h jd=>?_) (fun i j oi oj d hi hj jd mE aX py=>?_) (fun j o hj hjf=>by simp at hjf) iU (fun L' a' w' hk mJ=>⟨L',hk,mJ⟩)
 ·have hi:i<m:=hor.resolve_right (fun e=>e rfl)
  rw [gl i ae,gl (i+1) ae]
  exact fs i o (by rw [anT,if_pos hi];simpa using ho)
 ·have:i=m:=by have:=ov i o ho;omega
  subst this
  have mw:l[i]?=some o:=by simpa using ho
  rw [k1] at mw;cases mw
  rw [gl i (bq _),gm]
  exact fun a w K Q hs hd hK=>k2 n W X Z0 a w K Q hs hd hK
 ·have:=(h1 i (ov i o h)).1 j (by rw [ir i o h];exact hj)
  simpa using this
 ·have:=(h1 i (ov i o h)).2
  rw [if_pos yp] at this
  have:=(pO.1 this) j (by simpa using hj)
  simp only [oN,kI,beq_iff_eq,pS] at this
  rcases this with g9 | g9
  ·exact .inl (pX i j (by simpa using g9))
  ·exact absurd g9.2 aM
 ·have:=(h1 i (ov i o h)).2
  rw [if_neg ae] at this
  rw [ir i o h] at this
  simpa using this
 ·have:=h2 i jd j mE
  simp only [oN,beq_iff_eq] at this
  rcases this with h | h
  ·exact absurd h aX
  ·unfold aaU at h
   rw [ir j oj hj,ir i oi hi,py] at h
   simp only [kI,bne_iff_ne,ne_eq,oN,xC] at h
   refine⟨h.1,fun sV=>?_⟩
   rcases h.2 with h' | h'
   ·rw [pS.2 sV] at h';cases h'
   ·split
    ·rename_i bH;rw [if_pos bH] at h';exact pX i j h'
    ·rename_i bH;rw [if_neg bH] at h';exact pX j i h'
theorem aCt {l:List Oper} {m:Nat} {K:St->Prop} {ops:Array Oper} {o:Oper} {L L2:St} (h1:l[m]?=some o) (h2:afG P l.toArray o L L2) (h3:K L2):opsL P true ops [] L (aqj P l m K):=by
 unfold opsL
 exact⟨o,L2,h1,h2,h3⟩
def awp (P:Program) (l:List Oper) (m:Nat) (K:St->Prop) (L:St):Prop:=∃ o L2,l[m]?=some o/\afG P l.toArray o L L2/\opsL P true l.toArray (l.drop (m+1)) L2 K
theorem aEu {l:List Oper} {id:Nat} {L:St} {Q:ku->St->Prop} (iY:P.follows .mixedOrders=true) (m:Nat) (hm:zn l.toArray m []=true) (hl:m<l.length) (h:opsL P true l.toArray (l.take m) L (awp P l m (Q .normal))):cP P (.region id l.toArray true) Q L:=by
 refine aiY fun n W X Z0 a w hs hd id=>?_
 have iU:∀ o∈l.toArray.toList,∀ t,o.dst=some t->t<n:=fun o ho t ht=>by
  simp only [lV,pO] at hd
  have:=hd o ho
  rw [ht] at this
  simpa using this
 obtain⟨f,f0,fs,o9,L9,k1,k2,k3⟩:=aa1 _ _ h
 obtain⟨f2,e0,es,ek⟩:=aa1 _ _ k3
 have bH:(l.take m).length=m:=by rw [eP];omega
 rw [bH] at k2
 unfold zn at hm
 simp only [kI,decide_eq_true_eq,pO,qy] at hm
 obtain⟨⟨⟨w7,h1⟩,h2⟩,h3⟩:=hm
 have ir:∀ i o,l.toArray[i]?=some o->l.toArray.getD i default=o:=fun i o h=>by rw [dG,h];rfl
 have ov:∀ i o,l.toArray[i]?=some o->i<l.toArray.size:=fun i o h=>(nA.1 h).1
 have bI:l.toArray.size=l.length:=by simp
 have pX:=aej l.toArray l.toArray.toList [] (fun i=>by simp) (fun i t h=>by simp at h)
 let g:Nat->St:=fun i=>if i<=m then f i else f2 (i-(m+1))
 have gl:∀ i,i<=m->g i=f i:=fun i hi=>if_pos hi
 have gm:∀ i,m<i->g i=f2 (i-(m+1)):=fun i hi=>if_neg ae
 refine ams (m:=m) (fr:=[]) (f:=g) (K:=Q .normal) (L:=L) iY hs (by rw [gl 0 (b8 _)];exact f0) (fun i o ho hor=>?_) (fun i o ho jd=>?_) (by rw [bI,gm _ hl,<-List.length_drop];exact ek) w7 (fun i o h j hj=>?_) (fun i o h yp j hj=>?_) (fun i o h jd=>?_) (fun i j oi oj d hi hj jd mE aX py=>?_) (fun j o hj hjf=>by simp at hjf) iU (fun L' a' w' hk mJ=>⟨L',hk,mJ⟩)
 ·have hi:i<m:=hor.resolve_right (fun e=>e rfl)
  rw [gl i ae,gl (i+1) ae]
  exact fs i o (by rw [anT,if_pos hi];simpa using ho)
 ·by_cases hem:i=m
  ·subst hem
   have mw:l[i]?=some o:=by simpa using ho
   rw [k1] at mw;cases mw
   rw [gl i (bq _),gm _ (Nat.lt_succ_self _),qn,e0]
   exact fun a w K Q hs hd hK=>k2 n W X Z0 a w K Q hs hd hK
  ·have dj:=es (i-(m+1)) o (by rw [tc,show m+1+(i-(m+1))=i by omega];simpa using ho)
   rw [gm i ae,gm (i+1) ae,show i+1-(m+1)=i-(m+1)+1 by omega]
   exact fun a w K Q hs hd hK=>acU hs dj hd hK
 ·have:=(h1 i (ov i o h)).1 j (by rw [ir i o h];exact hj)
  simpa using this
 ·have:=(h1 i (ov i o h)).2
  rw [if_pos yp] at this
  have:=(pO.1 this) j (by simpa using hj)
  simp only [oN,kI,beq_iff_eq,pS] at this
  rcases this with g9 | g9
  ·exact .inl (pX i j (by simpa using g9))
  ·exact absurd g9.2 aM
 ·have:=(h1 i (ov i o h)).2
  rw [if_neg ae] at this
  rw [ir i o h] at this
  simpa using this
 ·have:=h2 i jd j mE
  simp only [oN,beq_iff_eq] at this
  rcases this with h | h
  ·exact absurd h aX
  ·unfold aaU at h
   rw [ir j oj hj,ir i oi hi,py] at h
   simp only [kI,bne_iff_ne,ne_eq,oN,xC] at h
   refine⟨h.1,fun sV=>?_⟩
   rcases h.2 with h' | h'
   ·rw [pS.2 sV] at h';cases h'
   ·split
    ·rename_i bH;rw [if_pos bH] at h';exact pX i j h'
    ·rename_i bH;rw [if_neg bH] at h';exact pX j i h'
theorem aBA {l:List Oper} {m:Nat} {K:St->Prop} {ops:Array Oper} {o:Oper} {L L2:St} (h1:l[m]?=some o) (h2:afG P l.toArray o L L2) (h3:opsL P true l.toArray (l.drop (m+1)) L2 K):opsL P true ops [] L (awp P l m K):=by
 unfold opsL
 exact⟨o,L2,h1,h2,h3⟩
end
end Go.Lg
end
