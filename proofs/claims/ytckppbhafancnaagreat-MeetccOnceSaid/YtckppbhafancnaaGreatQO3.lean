/- Texts LgY, LgR, LgG, LgS, LgT, LgU, LgV, LgW, LgX, LgC, LgD of this proof, joined. -/
import Derived.Test.YtckppbhafancnaaGreatQO2
import Derived.Laws.Cover3
set_option linter.unusedVariables false
set_option linter.unusedSimpArgs false
open Array renaming ext'->u9,ext_getElem?->apB,getD_eq_getD_getElem?->dB,getElem?_eq_getElem->oL,getElem?_eq_some_iff->mN,getElem?_setIfInBounds_ne->jP,getElem?_setIfInBounds_self_of_lt->nT,mem_toList_iff->afH,replicate->qT
open BitVec renaming ofInt->tI,toNat_ofNat->aaL,toNat_or->alM
open Bool renaming and_eq_true->jq,not_eq_true->aat,not_eq_true'->wY,or_eq_true->ob
open Classical renaming byContradiction->o8
open Int renaming ediv_nonneg->ass,fdiv_eq_ediv_of_nonneg->akm,natCast_dvd_natCast->al7,neg_mul->ahO
open List renaming all_eq_true->oR,contains_iff_mem->oX,countP_eq_zero->at1,drop_eq_getElem_cons->aap,drop_of_length_le->jQ,drop_zero->lQ,foldl->tn,getD_eq_getElem?_getD->bz,getElem?_cons_zero->qo,getElem?_drop->sA,getElem?_eq_getElem->cq,getElem?_eq_none->xL,getElem?_eq_some_iff->oC,getElem?_set_self->atM,getElem?_take->ant,getLast_cons->apE,getLast_eq_getElem->ao7,length_cons->qJ,length_take->eG,map->sW,map_congr_left->uU,map_cons->nv,map_take->xg,mem_append->oy,mem_cons->fu,mem_filterMap->yi,mem_map->da,mem_of_getElem?->sb,mem_range->pI,mem_singleton->iM,mem_toArray->av2,not_mem_nil->jn,range->cW,replicate->ay,set->uY,take_length->nn,take_of_length_le->de,take_succ_eq_append_getElem->abT
open List.cons renaming injEq->fJ
open Nat renaming add_comm->pM,add_mul->hY,add_right_comm->akQ,add_sub_cancel->lP,add_zero->mf,beq->n8,beq_eq->yb,div_add_mod->acO,div_eq_of_lt->aa7,div_le_self->vf,div_lt_iff_lt_mul->nP,eq_zero_or_pos->ahy,gcd_comm->qL,gcd_dvd_left->aa1,le_div_iff_mul_le->yW,le_max_left->atb,le_max_right->al6,le_of_eq->adG,le_of_lt->x9,le_refl->bp,le_sub_one_of_lt->auq,le_trans->a9,lt_of_le_of_lt->ug,lt_of_lt_of_le->yw,lt_of_mul_lt_mul_right->awE,lt_or_ge->gM,lt_trans->aoc,min_eq_left->lL,mod_eq_of_lt->iF,mod_self->awr,mul_add->ez,mul_add_div->awA,mul_assoc->fH,mul_comm->fy,mul_le_mul->nz,mul_le_mul_left->jX,mul_le_mul_right->fP,mul_left_comm->acR,mul_lt_mul_of_pos_right->akn,mul_mod_mul_right->at0,mul_pos->nt,mul_right_comm->axQ,mul_zero->aaf,not_lt->amJ,one_mul->ae8,or_comm->arp,pos_of_ne_zero->vc,pow_add->lM,pow_le_pow_right->lO,pow_pos->lY,pow_succ->jg,shiftLeft_add_eq_or_of_lt->akZ,shiftLeft_eq->alo,strongRecOn->abL,sub_self->pB,zero_add->fw,zero_le->b8
open Option renaming getD_some->zU,isNone_iff_eq_none->wW
open Option.some renaming injEq->fp
open Rat renaming div_def->jo,mkRat_add_mkRat->ali,mkRat_self->atO,neg_mkRat->aoy,not_le->aw9,num_mkRat->avV,num_nonneg->au1
section
set_option linter.unusedVariables false
set_option linter.unusedSimpArgs false
namespace Go.Lg
def val:List Nat->Nat
 | []=>0
 | x :: xs=>x+4294967296*val xs
def bX (l:List Nat):Prop:=∀ x∈l,x<4294967296
def abc:Nat->Nat->List Nat
 | 0,_=>[]
 | k+1,n=>if n=0 then [] else n % 4294967296 :: abc k (n/4294967296)
def aq (n:Nat):List Nat:=abc n n
theorem aid:∀ k,abc k 0=[]
 | 0=>rfl
 | k+1=>by simp [abc]
theorem apr:∀ (k j n:Nat),n<=k->n<=j->abc k n=abc j n
 | 0,j,n,h,_=>by
   have:n=0:=by omega
   subst this;rw [aid,aid]
 | k+1,0,n,_,h=>by
   have:n=0:=by omega
   subst this;rw [aid,aid]
 | k+1,j+1,n,h1,h2=>by
   simp only [abc]
   split
   ·rfl
   ·rw [apr k j (n/4294967296) ae ae]
theorem wb:aq 0=[]:=rfl
theorem abb {n:Nat} (h:0<n):aq n=n % 4294967296 :: aq (n/4294967296):=by
 unfold aq
 obtain⟨k,rfl⟩:∃ k,n=k+1:=⟨n-1,ae⟩
 rw [abc,if_neg ae,apr k ((k+1)/4294967296) _ ae (bp _)]
theorem ck (n:Nat):val (aq n)=n:=by
 induction n using abL with
 | _ n ih =>
  by_cases h:n=0
  ·subst h;rfl
  ·rw [abb ae,val,ih (n/4294967296) ae];omega
theorem cS (n:Nat):bX (aq n):=by
 induction n using abL with
 | _ n ih =>
  by_cases h:n=0
  ·subst h;intro x hx;cases hx
  ·rw [abb ae]
   intro x hx
   rcases fu.1 hx with rfl | hx
   ·omega
   ·exact ih _ ae x hx
def Can (l:List Nat):Prop:=∀ h:l≠[],l.getLast h≠0
theorem afh (n:Nat):Can (aq n):=by
 induction n using abL with
 | _ n ih =>
  by_cases h:n=0
  ·subst h;intro h;exact absurd rfl h
  ·rw [abb ae]
   intro aX
   by_cases h2:n/4294967296=0
   ·have e:aq (n/4294967296)=[]:=by rw [h2];rfl
    simp only [e,List.getLast_singleton];omega
   ·have asB:aq (n/4294967296)≠[]:=by rw [abb ae];simp
    rw [apE asB]
    exact ih _ ae asB
theorem axR {x:Nat} {xs:List Nat} (h:Can (x :: xs)):Can xs:=fun aX=>by
 have:=h (List.cons_ne_nil _ _)
 rwa [apE aX] at this
theorem avy:∀ {l:List Nat},Can l->l≠[]->0<val l
 | [],_,h=>absurd rfl h
 | [x],h,_=>by have:=h aT;simp at this;simp [val];omega
 | x :: y :: l,h,_=>by
   have:=avy (axR h) aT
   simp only [val] at this ⊢;omega
theorem auW:∀ {l:List Nat},bX l->Can l->aq (val l)=l
 | [],_,_=>rfl
 | x :: xs,h1,h2=>by
   have hp:=avy h2 aT
   have hx:=h1 x aT
   have ih:=auW (l:=xs) (fun y hy=>h1 y (by simp [hy])) (axR h2)
   rw [abb hp]
   have e1:val (x :: xs) % 4294967296=x:=by simp only [val];omega
   have e2:val (x :: xs)/4294967296=val xs:=by simp only [val];omega
   rw [e1,e2,ih]
theorem acu:∀ {l:List Nat},bX l->val l<4294967296 ^ l.length
 | [],_=>by simp [val]
 | x :: xs,h=>by
   have ih:=acu (l:=xs) (fun y hy=>h y (by simp [hy]))
   have hx:=h x aT
   simp only [val,qJ,jg]
   have:val xs+1<=4294967296 ^ xs.length:=ih
   have:=fP 4294967296 this
   omega
theorem aeh:∀ (l m:List Nat),val (l++m)=val l+4294967296 ^ l.length*val m
 | [],m=>by simp [val]
 | x :: xs,m=>by
   simp only [List.cons_append,val,aeh xs m,qJ,jg]
   rw [ez,<-fH,fy 4294967296 (4294967296 ^ xs.length)];omega
theorem ajc:∀ k,val (ay k 0)=0
 | 0=>rfl
 | k+1=>by simp [List.replicate_succ,val,ajc k]
theorem xw {n k:Nat} (h:n<4294967296 ^ k):(aq n).length<=k:=by
 induction k generalizing n with
 | zero =>
      have:n=0:=by simpa using h
      subst this;simp [wb]
 | succ k ih =>
  by_cases h0:n=0
  ·subst h0;simp [wb]
  ·rw [abb ae,qJ]
   have:=ih (n:=n/4294967296) (by rw [nP ae];rwa [<-jg])
   omega
theorem uK {n k:Nat} (h:(aq n).length<=k):n<4294967296 ^ k:=by
 have h1:=acu (cS n)
 rw [ck] at h1
 exact yw h1 (lO ae h)
theorem aqt {n k:Nat}:(aq n).length<=k↔n<4294967296 ^ k:=⟨uK,xw⟩
theorem sM {n:Nat}:aq n=[]↔n=0:=by
 constructor
 ·intro h;have:=ck n;rw [h] at this;exact this.symm
 ·rintro rfl;rfl
theorem aqh {l m:List Nat} (h1:bX l) (h2:bX m):bX (l++m):=fun x hx=>by
 rcases oy.1 hx with h | h
 ·exact h1 x h
 ·exact h2 x h
theorem xp {l:List Nat} (h:bX l) (k:Nat):bX (l.take k):=fun x hx=>h x (List.mem_of_mem_take hx)
theorem aCd {l:List Nat} (h:bX l) (k:Nat):bX (l.drop k):=fun x hx=>h x (List.mem_of_mem_drop hx)
theorem vN (k:Nat):bX (ay k 0):=fun x hx=>by rw [(List.mem_replicate.1 hx).2];omega
theorem aHS {l:List Nat} (h:bX l) (k:Nat):l.getD k 0<4294967296:=by
 rw [bz]
 cases hq:l[k]? with
 | none=>simp
 | some x=>simpa using h x (sb hq)
theorem atF {l:List Nat} {k:Nat} (h:k<l.length):val (l.take (k+1))=val (l.take k)+4294967296 ^ k*l.getD k 0:=by
 rw [abT h,aeh,eG,lL ae,bz,cq h]
 simp [val]
def jt:Nat->List Nat->Nat
 | 0,_=>0
 | n+1,l=>if l.getD n 0=0 then jt n l else n+1
theorem ak2:∀ (n:Nat) (l:List Nat),jt n l<=n
 | 0,_=>by simp [jt]
 | n+1,l=>by simp only [jt];split;have:=ak2 n l;omega;omega
theorem aiC:∀ (n:Nat) (l:List Nat),n<=l.length->Can (l.take (jt n l))/\val (l.take (jt n l))=val (l.take n)
 | 0,l,_=>by simp [jt,Can]
 | n+1,l,h=>by
   simp only [jt]
   split
   ·rename_i h0
    have ih:=aiC n l ae
    refine⟨ih.1,ih.2.trans ?_⟩
    rw [atF ae,h0];simp
   ·rename_i h0
    refine⟨fun aX=>?_,rfl⟩
    rw [ao7]
    simp only [eG,lL h,lP,List.getElem_take]
    rw [bz,cq ae] at h0
    exact h0
def xS (l:List Nat):List Nat:=l.take (jt l.length l)
theorem vC {l:List Nat} (h:bX l):xS l=aq (val l):=by
 have:=aiC l.length l (bp _)
 rw [nn] at this
 rw [<-this.2]
 exact(auW (xp h _) this.1).symm
def bu (n:Nat):LV:=.v (.int .u32 n)
def fR (n:Int):LV:=.v (.int .i64 n)
theorem fZ:iJ bu 1 false:=⟨fun _=>rfl,fun _=>rfl,fun _=>rfl⟩
theorem oS:iJ fR 1 false:=⟨fun _=>rfl,fun _=>rfl,fun _=>rfl⟩
def eZ (l:List Nat):LV:=.list 1 (l.map bu)
def bl (n:Nat):LV:=.list 1 ((aq n).map bu)
theorem kf (n:Nat):(bl n).pure=true:=by simp only [bl,LV.pure];exact a7 fZ _
def jH (q:Rat):Nat:=if q.den=1 then 0 else q.den
@[irreducible] def ah (q:Rat):LV:=.agg [.v (.bool (decide (q<0))),bl q.num.natAbs,bl (jH q)]
theorem vW (q:Rat):ah q=.agg [.v (.bool (decide (q<0))),bl q.num.natAbs,bl (jH q)]:=by unfold ah;rfl
theorem ar:iJ ah 3 true:=by
 refine⟨fun q=>?_,fun q=>?_,fun q=>?_⟩
 ·rw [vW];rfl
 ·rw [vW];rfl
 ·rw [vW];simp [LV.pure,aN,kf]
theorem azD (q:Rat):(ah q).at 0 1 false=some (.v (.bool (decide (q<0)))):=by rw [vW];rfl
theorem aEH (q:Rat):(ah q).at 1 1 false=some (bl q.num.natAbs):=by rw [vW];rfl
theorem aFh (q:Rat):(ah q).at 2 1 false=some (bl (jH q)):=by rw [vW];rfl
theorem qm (q:Rat):(ah q).at 0 3 true=some (ah q):=by
 have:=alN (ah q) (ar.pure q)
 rwa [ar.aw,ar.isAgg] at this
theorem qi:ah 0=.agg [.v (.bool false),.list 1 [],.list 1 []]:=by rw [vW];rfl
@[irreducible] def aH (s:Rat × Rat):LV:=.agg [ah s.1,ah s.2]
theorem yn (s:Rat × Rat):aH s=.agg [ah s.1,ah s.2]:=by unfold aH;rfl
theorem cg:iJ aH 6 true:=by
 refine⟨fun s=>?_,fun s=>?_,fun s=>?_⟩<;>rw [yn]<;>simp [LV.aw,cU,LV.isAgg,LV.pure,aN,ar.aw,ar.pure]
theorem aaD (s:Rat × Rat):(aH s).at 0 6 true=some (aH s):=by
 have:=alN (aH s) (cg.pure s)
 rwa [cg.aw,cg.isAgg] at this
theorem apY (s:Rat × Rat):(aH s).at 0 3 true=some (ah s.1):=by
 rw [yn];simp [LV.at,uh,cU,ar.aw,qm]
theorem auj (s:Rat × Rat):(aH s).at 3 3 true=some (ah s.2):=by
 rw [yn];simp [LV.at,uh,cU,ar.aw,qm]
theorem cY (q:Rat) (b:Nat):(ah q).kill b=ah q:=LV.lV b _ (ar.pure q)
theorem aV {α:Type} {e:α->LV} {sz:Nat} {ag:Bool} (h:iJ e sz ag) (b:Nat) (l:List α):b7 b (l.map e)=l.map e:=aey b _ (a7 h l)
theorem et (q:Rat × Rat) (b:Nat):(aH q).kill b=aH q:=LV.lV b _ (cg.pure q)
section
variable {Z:Nat->Prop} {μ:Nat->Option Nat} {w:World}
theorem gh {x:Value} (h:x.oneCell'=true):aC Z μ w (.v x) [x]:=by simp only [aC];exact⟨trivial,h⟩
theorem ad5 (sz:Nat):aC Z μ w (.list sz []) [.slice none 0 0]:=by simp only [aC];exact⟨none,0,0,rfl,rfl,bp _,.inl trivial,rfl⟩
theorem fa {l:List LV} {cs:List Value} (h:cA Z μ w l cs):aC Z μ w (.agg l) cs:=by simp only [aC];exact h
theorem eX:cA Z μ w [] []:=by simp only [cA]
theorem bB {x:LV} {xs:List LV} {c1 c2:List Value} (h1:c1.length=x.aw) (h2:aC Z μ w x c1) (h3:cA Z μ w xs c2):cA Z μ w (x :: xs) (c1++c2):=by
 simp only [cA];exact⟨c1,c2,rfl,h1,h2,h3⟩
theorem dz:aC Z μ w (ah 0) [.bool false,.slice none 0 0,.slice none 0 0]:=by
 rw [qi]
 exact fa (bB (c1:=[.bool false]) rfl (gh rfl) (bB (c1:=[.slice none 0 0]) rfl (ad5 1) (bB (c1:=[.slice none 0 0]) rfl (ad5 1) eX)))
end
end Go.Lg
namespace Go.Lg
abbrev cQ (n:Nat):LV:=.v (.int .u64 ((n:Nat):Int))
abbrev qz (n:Nat):LV:=.v (.int .u32 ((n:Nat):Int))
abbrev ai (n:Nat):LV:=.v (.int .i64 ((n:Nat):Int))
abbrev bL (b:Bool):LV:=.v (.bool b)
abbrev iL (n:Int):LV:=.v (.int .i64 n)
section
variable {a b:Nat}
theorem asi (h:a+b<18446744073709551616):dL .add .u64 (a:Nat) (b:Nat)=some (.int .u64 ((a+b:Nat):Int)):=by
 simp only [dL];rw [IntWalk.u64_in _ ae];simp
theorem acL (h:a*b<18446744073709551616):dL .mul .u64 (a:Nat) (b:Nat)=some (.int .u64 ((a*b:Nat):Int)):=by
 simp only [dL]
 have e:((a:Int)*(b:Int))=((a*b:Nat):Int):=by simp
 rw [e,IntWalk.u64_in _ ae]
theorem asT (h:b<=a) (h1:a<18446744073709551616):dL .sub .u64 (a:Nat) (b:Nat)=some (.int .u64 ((a-b:Nat):Int)):=by
 simp only [dL];rw [IntWalk.u64_in _ ae];congr 2;omega
theorem aeL (h:b<=18446744073709551616):dL .sub .u64 (a:Nat) (b:Nat)=some (.int .u64 (((18446744073709551616+a-b) % 18446744073709551616:Nat):Int)):=by
 simp only [dL];rw [IntKind.wrap_u64];congr 2;omega
theorem aiJ (h:0<b) (h1:a<18446744073709551616):dL .quo .u64 (a:Nat) (b:Nat)=some (.int .u64 ((a/b:Nat):Int)):=by
 have e:((a:Int).tdiv (b:Int))=((a/b:Nat):Int):=by simp
 have h2:a/b<=a:=vf a b
 simp only [dL];rw [if_neg ae,e,IntWalk.u64_in _ ⟨Int.natCast_nonneg _,ae⟩]
theorem al1 (h:0<b):dL .rem .u64 (a:Nat) (b:Nat)=some (.int .u64 ((a % b:Nat):Int)):=by
 simp only [dL];rw [if_neg ae];congr 2
theorem aeG (h:a*4294967296<18446744073709551616):pC .shl .u64 (a:Nat) 32=some (.int .u64 ((a*4294967296:Nat):Int)):=by
 have e:(2:Int) ^ min (32:Int).toNat IntKind.u64.bits=4294967296:=by decide
 simp only [pC]
 rw [if_neg ae,e,IntWalk.u64_in _ ae];simp
theorem aH4:pC .shr .u64 (a:Nat) 32=some (.int .u64 ((a/4294967296:Nat):Int)):=by
 have e:(2:Int) ^ min (32:Int).toNat IntKind.u64.bits=4294967296:=by decide
 simp only [pC]
 rw [if_neg ae,e,akm _ ae]
 congr 2
theorem aF5:pC .shr .u64 (a:Nat) 63=some (.int .u64 ((a/9223372036854775808:Nat):Int)):=by
 have e:(2:Int) ^ min (63:Int).toNat IntKind.u64.bits=9223372036854775808:=by decide
 simp only [pC]
 rw [if_neg ae,e,akm _ ae]
 congr 2
theorem aaP (n w:Nat):(tI w (n:Int))=BitVec.ofNat w n:=by simp
theorem orU {x:Nat} (hb:b<4294967296) (hx:x<4294967296):dL .or .u64 ((x*4294967296:Nat):Int) (b:Nat)=some (.int .u64 ((x*4294967296+b:Nat):Int)):=by
 have e:(tI IntKind.u64.bits ((x*4294967296:Nat):Int) ||| tI IntKind.u64.bits (b:Int)).toNat=x*4294967296+b:=by
  rw [aaP,aaP,alM,aaL,aaL]
  have e1:x*4294967296 % 2 ^ IntKind.u64.bits=x*4294967296:=iF (by show _<18446744073709551616;omega)
  have e2:b % 2 ^ IntKind.u64.bits=b:=iF (by show _<18446744073709551616;omega)
  rw [e1,e2]
  have:=akZ (i:=32) (b:=b) (by simpa using hb) x
  rw [alo] at this
  exact this.symm
 simp only [dL,e]
 rw [IntWalk.u64_in _ ae]
theorem wrap32:IntKind.u32.wrap (a:Nat)=((a % 4294967296:Nat):Int):=by rw [IntKind.wrap_u32];omega
theorem wrap64 (h:a<18446744073709551616):IntKind.u64.wrap (a:Nat)=(a:Int):=IntWalk.u64_in _ ae
theorem vi {x y:Nat} (hx:x<4294967296) (hy:y<4294967296):x*y<=18446744065119617025:=by
 have:=nz (auq hx) (auq hy)
 simpa using this
end
section
variable {P:Program} {H:bW} {ρ:Operand->LV} {S D:TypeId} {x:Operand} {n:Nat} {k':IntKind}
theorem aE.ayF {α:Type} {e:α->LV} {sz:Nat} {l:List α} {T:TypeId} {d:TypeId} {as:Array TypeId} (hx:ρ x=.list sz (l.map e)) (has:as=#[T]) (hT:P.underlying T=some (.slice d)) :
  aE P H ρ (.call ⟨.builtin .len,#[x],as⟩) (ai l.length):=by
 have:=aE.z5 (H:=H) hx has hT
 rwa [List.length_map] at this
theorem aE.ayw {d:TypeDesc} (hS:P.underlying S=some d) (hD:P.underlying D=some (.int .u32)) (hx:ρ x=.v (.int k' (n:Nat))):aE P H ρ (.convert S D x) (qz (n % 4294967296)):=by
 have:=aE.conv (H:=H) hS hD hx
 rwa [wrap32] at this
theorem aE.aiY {d:TypeDesc} (hS:P.underlying S=some d) (hD:P.underlying D=some (.int .u64)) (hx:ρ x=.v (.int k' (n:Nat))) (h:n<18446744073709551616):aE P H ρ (.convert S D x) (cQ n):=by
 have:=aE.conv (H:=H) hS hD hx
 rwa [wrap64 h] at this
theorem aE.cvI {d:TypeDesc} {m:Int} (hS:P.underlying S=some d) (hD:P.underlying D=some (.int .i64)) (hx:ρ x=.v (.int k' m)) (h1:-9223372036854775808<=m) (h2:m<=9223372036854775807):aE P H ρ (.convert S D x) (iL m):=by
 have:=aE.conv (H:=H) hS hD hx
 rwa [IntWalk.i64_in _ ⟨h1,h2⟩] at this
end
section
variable {P:Program} {Q:jW->St->Prop} {L L0:St} {K:St->Prop} {dr:Bool} {ops:Array Oper} {l:List Oper}
theorem aH2 {d:Nat} {b:Bool} (h:L.slot d=.v (.bool b)) (ht:b=true->opsL P dr ops l L K) (hf:b=false->opsL P dr ops l L K):opsL P dr ops l L K:=by
 cases b with
 | true=>exact ht rfl
 | false=>exact hf rfl
theorem cr {c:Operand} {x y:Code} {b:Bool} (hc:L.ev c=.v (.bool b)) (hb:b=true) (h:cP P x Q L):cP P (.cond c x y) Q L:=ald hc (fun _=>h) (fun e=>by rw [hb] at e;cases e)
theorem fi {c:Operand} {x y:Code} {b:Bool} (hc:L.ev c=.v (.bool b)) (hb:b=false) (h:cP P y Q L):cP P (.cond c x y) Q L:=ald hc (fun e=>by rw [hb] at e;cases e) (fun _=>h)
end
theorem az.own {L:St} {t:Nat} (d sz:Nat) (h:L.slot t=.v (.slice none 0 0)) (hd:L.heap d=none):az L ((L.bO d (some ⟨sz,[],true⟩)).put (some t) (.ref d sz 0 0)):=by
 rintro n W X Z0 a w ⟨ec,bJ,μ,Z,hc,hr⟩
 refine⟨ec,bJ,μ,Z,?_,fun s=>?_⟩
 ·rw [lH]
  refine hc.ais fun c id xZ=>?_
  have:c≠d:=by rintro rfl;rw [uw hc hd] at xZ;cases xZ
  simp [St.bO,this]
 ·rw [g8]
  split
  ·rename_i dC
   subst dC
   have e:=hr s
   rw [h] at e
   rw [e.eu]
   exact⟨by simp [LV.isAgg],fun _=>by simp [aC]⟩
  ·exact hr s
theorem az.any (L:St) (t:Nat):az L (L.put (some t) .any):=by
 rintro n W X Z0 a w ⟨ec,bJ,μ,Z,hc,hr⟩
 refine⟨ec,bJ,μ,Z,by rw [lH];exact hc,fun s=>?_⟩
 rw [g8]
 split
 ·trivial
 ·exact hr s
def hp:List (Nat × bh)->bW
 | [],_=>none
 | (b,x) :: l,c=>bif n8 c b then some x else hp l c
def ins (b:Nat) (x:bh):List (Nat × bh)->List (Nat × bh)
 | []=>[(b,x)]
 | (c,y) :: l=>bif n8 c b then(b,x) :: l else(c,y) :: ins b x l
def oN (b:Nat):List (Nat × bh)->List (Nat × bh)
 | []=>[]
 | (c,y) :: l=>bif n8 c b then oN b l else(c,⟨y.sz,b7 b y.vals,y.mt⟩) :: oN b l
def yq (bs:List Nat):List (Nat × bh)->List (Nat × bh)
 | []=>[]
 | (c,y) :: l=>(c,⟨y.sz,y.vals,y.mt && !bs.contains c⟩) :: yq bs l
theorem beq_eq {a b:Nat} (h:n8 a b=true):a=b:=Nat.eq_of_beq_eq_true h
theorem vh (a:Nat):n8 a a=true:=by rw [yb]
theorem pW {a b:Nat} (h:a≠b):n8 a b=false:=by rw [<-aat,yb];exact h
theorem ata (b:Nat) (x:bh):∀ (l:List (Nat × bh)) (c:Nat),hp (ins b x l) c=if c=b then some x else hp l c
 | [],c=>by
   simp only [ins,hp]
   by_cases h:c=b
   ·subst h;rw [vh];simp
   ·rw [pW h,if_neg h];rfl
 | (d,y) :: l,c=>by
   simp only [ins]
   by_cases wR:d=b
   ·subst wR
    rw [vh]
    simp only [cond_true,hp]
    by_cases h:c=d
    ·subst h;rw [vh];simp
    ·rw [pW h,if_neg h];rfl
   ·rw [pW wR]
    simp only [cond_false,hp,ata b x l c]
    by_cases h:c=d
    ·subst h;rw [vh];simp [wR]
    ·rw [pW h];rfl
theorem agv (b:Nat):∀ (l:List (Nat × bh)) (c:Nat),hp (oN b l) c=if c=b then none else(hp l c).map fun blk=>⟨blk.sz,b7 b blk.vals,blk.mt⟩
 | [],c=>by simp [oN,hp]
 | (d,y) :: l,c=>by
   simp only [oN]
   by_cases wR:d=b
   ·subst wR
    rw [vh]
    simp only [cond_true,agv d l c,hp]
    by_cases h:c=d
    ·rw [if_pos h,if_pos h]
    ·rw [if_neg h,if_neg h,pW h];rfl
   ·rw [pW wR]
    simp only [cond_false,hp,agv b l c]
    by_cases h:c=d
    ·subst h;rw [vh];simp [wR]
    ·rw [pW h];rfl
theorem axH (bs:List Nat):∀ (l:List (Nat × bh)) (c:Nat),hp (yq bs l) c=(hp l c).map fun blk=>⟨blk.sz,blk.vals,blk.mt && !bs.contains c⟩
 | [],c=>rfl
 | (d,y) :: l,c=>by
   simp only [yq,hp,axH bs l c]
   by_cases h:c=d
   ·subst h;rw [vh];rfl
   ·rw [pW h];rfl
theorem b1 (s:Nat->LV) (l:List (Nat × bh)) (b:Nat) (x:bh):(St.mk s (hp l)).bO b (some x)=St.mk s (hp (ins b x l)):=by
 simp only [St.bO,St.mk.injEq,true_and];funext c;rw [ata]
theorem b2 (L:St) (t:Nat) (r:LV) (b:Nat) (x:Option bh):(L.put (some t) r).bO b x=(L.bO b x).put (some t) r:=rfl
theorem b3 (s:Nat->LV) (l:List (Nat × bh)) (b:Nat):(St.mk s (hp l)).kill b=St.mk (fun t=>(s t).kill b) (hp (oN b l)):=by
 simp only [St.kill,St.mk.injEq,true_and];funext c;rw [agv]
theorem b4 (L:St) (t:Nat) (r:LV) (b:Nat):(L.put (some t) r).kill b=(L.kill b).put (some t) (r.kill b):=by
 simp only [St.kill,St.put,St.mk.injEq,and_true]
 funext s
 cases n8 s t<;>rfl
theorem b5 (s:Nat->LV) (l:List (Nat × bh)) (bs:List Nat):(St.mk s (hp l)).b9 bs=St.mk s (hp (yq bs l)):=by
 simp only [St.b9,St.mk.injEq,true_and];funext c;rw [axH]
theorem b6 (L:St) (t:Nat) (r:LV) (bs:List Nat):(L.put (some t) r).b9 bs=(L.b9 bs).put (some t) r:=rfl
theorem i1 (b:Nat) (x:bh):ins b x []=[(b,x)]:=rfl
theorem i2 (b c:Nat) (x y:bh) (l:List (Nat × bh)) (h:(c==b)=true):ins b x ((c,y) :: l)=(b,x) :: l:=by
 simp only [beq_iff_eq] at h;simp only [ins,h,vh,cond_true]
theorem i3 (b c:Nat) (x y:bh) (l:List (Nat × bh)) (h:(c==b)=false):ins b x ((c,y) :: l)=(c,y) :: ins b x l:=by
 have h':c≠b:=by simpa using h
 simp only [ins,pW h',cond_false]
theorem i4 (b:Nat):oN b []=[]:=rfl
theorem i5 (b c:Nat) (y:bh) (l:List (Nat × bh)) (h:(c==b)=true):oN b ((c,y) :: l)=oN b l:=by
 simp only [beq_iff_eq] at h;simp only [oN,h,vh,cond_true]
theorem i6 (b c:Nat) (y:bh) (l:List (Nat × bh)) (h:(c==b)=false):oN b ((c,y) :: l)=(c,⟨y.sz,b7 b y.vals,y.mt⟩) :: oN b l:=by
 have h':c≠b:=by simpa using h
 simp only [oN,pW h',cond_false]
theorem bG {L:St} {l:List (Nat × bh)} (h:L.heap=hp l):St.mk L.slot (hp l)=L:=by rw [<-h]
def tQ (b:Nat):List (Nat × bh)->List (Nat × bh)
 | []=>[]
 | (c,y) :: l=>bif n8 c b then tQ b l else(c,y) :: tQ b l
theorem ane (b:Nat):∀ (l:List (Nat × bh)) (c:Nat),hp (tQ b l) c=if c=b then none else hp l c
 | [],c=>by simp [tQ,hp]
 | (d,y) :: l,c=>by
   simp only [tQ]
   by_cases wR:d=b
   ·subst wR
    rw [vh]
    simp only [cond_true,ane d l c,hp]
    by_cases h:c=d
    ·rw [if_pos h,if_pos h]
    ·rw [if_neg h,if_neg h,pW h];rfl
   ·rw [pW wR]
    simp only [cond_false,hp,ane b l c]
    by_cases h:c=d
    ·subst h;rw [vh];simp [wR]
    ·rw [pW h];rfl
theorem bh7 (s:Nat->LV) (l:List (Nat × bh)) (b:Nat):(St.mk s (hp l)).bO b none=St.mk s (hp (tQ b l)):=by
 show St.mk s _=_
 congr 1;funext c
 exact(ane b l c).symm
theorem dh1 (b:Nat):tQ b []=[]:=rfl
theorem dh2 (b c:Nat) (y:bh) (l:List (Nat × bh)) (h:(c==b)=true):tQ b ((c,y) :: l)=tQ b l:=by
 have:c=b:=by simpa using h
 subst this;simp only [tQ,vh,cond_true]
theorem dh3 (b c:Nat) (y:bh) (l:List (Nat × bh)) (h:(c==b)=false):tQ b ((c,y) :: l)=(c,y) :: tQ b l:=by
 have:c≠b:=by simpa using h
 simp only [tQ,pW this,cond_false]
def ax (P:Program) (f:FuncId) (args:List LV) (r:LV):Prop:=o6 P f args r []/\∀ g,r.bV g=r
section
variable {P:Program} {dr:Bool} {ops:Array Oper} {rest:List Oper} {L:St} {K:St->Prop} {dst:Option Tmp} {ty:TypeId} {pos:String} {af:Array Edge} {g:Option (Nat × Bool)}
theorem iP {f:FuncId} {xs:Array Operand} {as:Array TypeId} {args:List LV} {r:LV} (hg:dY ops L ⟨dst,.call ⟨.value (.func f),xs,as⟩,ty,pos,af,g⟩ true)
  (ha:fT L.heap (xs.toList.map L.ev) args) (hk:ax P f args r) (k:opsL P dr ops rest (L.put dst r) K) :
  opsL P dr ops (⟨dst,.call ⟨.value (.func f),xs,as⟩,ty,pos,af,g⟩ :: rest) L K:=aAL hg ha hk.1 (hk.2 _) k
theorem ahQ {f:FuncId} {xs:Array Operand} {as:Array TypeId} {args:List LV} {r:LV} (bs:List Nat) (hg:dY ops L ⟨dst,.call ⟨.value (.func f),xs,as⟩,ty,pos,af,g⟩ true) (h0:bs.contains 0=false)
  (ha:fT (L.b9 bs).heap (xs.toList.map L.ev) args) (hk:ax P f args r) (k:opsL P dr ops rest ((L.b9 bs).put dst r) K) :
  opsL P dr ops (⟨dst,.call ⟨.value (.func f),xs,as⟩,ty,pos,af,g⟩ :: rest) L K:=atu bs hg h0 ha hk.1 (hk.2 _) k
theorem aH9 {f:FuncId} {fn:Func} {c:Code} {args:List LV} {r:LV} (iH:P.follows .mixedOrders=true) (hf:P.funcs[f]?=some fn) (hb:fn.body=some c)
  (hn:(fn.name== "runtime.NumGoroutine")=false) (hd:lf fn.ntmps c=true) (hlen:args.length<=fn.ntmps) (ht:∀ g,r.bV g=r)
  (h:cP P c (fun e L=>match e with | .exit _=>False | _=>pn P fn.results.toList L r []) (St.mk (fun t=>args.getD t .any) (hp []))):ax P f args r:=⟨ayk iH hf hb hn hd hlen h,ht⟩
end
theorem aCm {P:Program} {f:FuncId} {fn:Func} {c:Code} {args:List LV} {r:LV} {bs:List bh} (iH:P.follows .mixedOrders=true) (hf:P.funcs[f]?=some fn) (hb:fn.body=some c)
  (hn:(fn.name== "runtime.NumGoroutine")=false) (hd:lf fn.ntmps c=true) (hlen:args.length<=fn.ntmps)
  (h:cP P c (fun e L=>match e with | .exit _=>False | _=>pn P fn.results.toList L r bs) (St.mk (fun t=>args.getD t .any) (hp []))):o6 P f args r bs:=ayk iH hf hb hn hd hlen h
theorem aBf {P:Program} {f:FuncId} {fn:Func} {c:Code} {args:List LV} {r:LV} {blk blk':bh} (iH:P.follows .mixedOrders=true) (hf:P.funcs[f]?=some fn) (hb:fn.body=some c)
  (hn:(fn.name== "runtime.NumGoroutine")=false) (hd:lf fn.ntmps c=true) (hlen:args.length<=fn.ntmps) (fj:blk.mt=true)
  (h:cP P c (fun e L=>match e with | .exit _=>False | _=>yQ P fn.results.toList L r blk') (St.mk (fun t=>args.getD t .any) (hp [(0,blk)]))):nc P f blk args r blk':=by
 refine aFk iH hf hb hn hd hlen fj ?_
 have:StM args blk=St.mk (fun t=>args.getD t .any) (hp [(0,blk)]):=by
  simp only [StM,St.mk.injEq,true_and]
  funext c
  simp only [hp]
  by_cases hc:c=0
  ·subst hc;rfl
  ·rw [pW hc,if_neg hc];rfl
 rw [this];exact h
theorem acQ {x:LV} (h:x.pure=true):∀ g,x.bV g=x:=fun g=>LV.df g x h
theorem ki {x y:LV} (h:x.pure=true) (h':y.pure=true):∀ g,(LV.bf [x,y]).bV g=.bf [x,y]:=fun g=>by
 simp only [LV.bV,du,LV.df g x h,LV.df g y h']
theorem ahW {x y z:LV} (h:x.pure=true) (h':y.pure=true) (h'':z.pure=true):∀ g,(LV.bf [x,y,z]).bV g=.bf [x,y,z]:=fun g=>by
 simp only [LV.bV,du,LV.df g x h,LV.df g y h',LV.df g z h'']
theorem zf (l:List Nat):(eZ l).pure=true:=fh fZ 1 l
theorem t1 (n:Nat):((n:Nat):Int).toNat=n:=rfl
theorem t2 (k:IntKind) (n:Nat):bu n=.v (.int .u32 (n:Nat)):=rfl
theorem axr {L:St} {α:Type} {e:α->LV} {ag:Bool} {bs:List Nat} {b sz len:Nat} {l:List α} {m:Bool} (he:iJ e sz ag) (hb:L.heap b=some ⟨sz,l.map e,m⟩) (rP:bs.contains b=true) (hl:len<=l.length) :
  cV (L.b9 bs).heap (.ref b sz 0 len) (.list sz ((l.take len).map e)):=by
 have:=afv (L:=L) (bs:=bs) (off:=0) (len:=len) hb rP (a7 he l) (by simp [hl])
 rwa [lQ,<-xg] at this
theorem vK {P:Program} {L:St} {t:Nat} {x y:LV} {blk:bh} (h:L.slot t=x) (hi:wF L.heap 0 x y) (hb:L.heap 0=some blk) (hm:blk.mt=true) (hp:aN blk.vals=true):yQ P [.tmp t] L y blk :=
 ⟨[x],[y],L.heap,.cons h .nil,bW.le_refl _,.cons hi .nil,hb,hm,hp,rfl⟩
theorem aD8 {P:Program} {L:St} {blk:bh} (hb:L.heap 0=some blk) (hm:blk.mt=true) (hp:aN blk.vals=true):yQ P [] L (.bf []) blk :=
 ⟨[],[],L.heap,.nil,bW.le_refl _,.nil,hb,hm,hp,rfl⟩
theorem r1 (f:Nat->Nat) (b sz off len:Nat):(LV.ref b sz off len).bV f=.ref (f b) sz off len:=rfl
theorem r2 (f:Nat->Nat) (b sz i o:Nat):(LV.aB b sz i o).bV f=.aB (f b) sz i o:=rfl
theorem r3 (f:Nat->Nat) (x:Value):(LV.v x).bV f=.v x:=rfl
theorem r4 (d k:Nat):ef d k=1000000+d*16+k:=rfl
section
variable {P:Program} {H:bW} {ρ:Operand->LV} {T E:TypeId} {x z:Operand} {b sz off len h:Nat} {k':IntKind} {ag:Bool}
theorem aE.ah2 (hx:ρ x=.ref b sz off len) (hT:P.underlying T=some (.slice E)) (hE:bC P E sz ag) (iC:ρ z=.v (.int k' (h:Nat))) (h2:h<=len) (h0:0<len) :
  aE P H ρ (.slice T x none (some z) none) (.ref b sz off h):=by
 have:=aE.wk (P:=P) (H:=H) (ρ:=ρ) (la:=none) (ha:=some z) (a:=0) (h:=h) hx hT hE (fun w hw=>by cases hw) (fun _=>rfl) (fun w hw=>by cases hw;exact⟨_,iC⟩) (fun h=>by cases h) ae h2 h0
 simpa using this
end
end Go.Lg
namespace Go.Lg
theorem fW:(default:Nat)=0:=rfl
theorem pJ (l:List Nat) (k:Nat):val (l.take (k+1))=val (l.take k)+4294967296 ^ k*l.getD k 0:=by
 by_cases h:k<l.length
 ·exact atF h
 ·have h1:l.take (k+1)=l:=de ae
  have h2:l.take k=l:=de ae
  have h3:l.getD k 0=0:=by rw [bz,xL ae];rfl
  rw [h1,h2,h3];simp
theorem adb (l:List Nat) {k:Nat} (h:l.length<=k):val (l.take k)=val l:=by rw [de h]
theorem aF6 (l:List Nat) (k j x:Nat) (h:k<=j):(l.set j x).take k=l.take k:=by rw [List.take_set_of_le h]
theorem abf (l:List Nat) (k x:Nat) (h:k<l.length):val ((l.set k x).take (k+1))=val (l.take k)+4294967296 ^ k*x:=by
 rw [pJ,aF6 _ _ _ _ (bp k),bz,atM h];rfl
theorem mO {l:List Nat} (h:bX l) (k x:Nat) (hx:x<4294967296):bX (l.set k x):=fun y hy=>by
 rcases List.mem_or_eq_of_mem_set hy with hy | rfl
 ·exact h y hy
 ·exact hx
theorem jc {l:List Nat} (h:bX l) (k:Nat):l.getD k 0<4294967296:=aHS h k
theorem ar6 (l:List Nat) (k x:Nat) (h:k<l.length):(l.set k x).getD k 0=x:=by
 rw [bz,atM h];rfl
theorem getD_set_ne (l:List Nat) (k j x:Nat) (h:k≠j):(l.set k x).getD j 0=l.getD j 0:=by
 rw [bz,bz,List.getElem?_set_ne h]
theorem uR (l:List Nat) (k:Nat) (h:l.length<=k):l.getD k 0=0:=by
 rw [bz,xL h];rfl
theorem ace (p s:Nat):p*(s % 4294967296)+p*4294967296*(s/4294967296)=p*s:=by
 rw [fH,<-ez,Nat.mod_add_div]
theorem iQ (n k:Nat):(aq n).getD k 0<4294967296:=jc (cS n) k
theorem oq {m n:Nat} (h:m<=n):(aq m).length<=(aq n).length:=by
 apply xw
 have:=acu (cS n);rw [ck] at this;omega
theorem tZ {l:List Nat} (h:bX l) {k:Nat} (hk:l.length<=k):val l<4294967296 ^ k :=
 yw (acu h) (lO ae hk)
theorem aiQ:aq 1=[1]:=rfl
theorem adh {n:Nat} (h0:0<n) (h:n<4294967296):aq n=[n]:=by
 rw [abb h0,iF h,aa7 h];rfl
theorem ua {n:Nat}:(aq n).length<=1↔n<4294967296:=aqt
theorem aai {n:Nat}:(aq n).length<=2↔n<18446744073709551616:=by
 rw [aqt]
theorem val_two (x y:Nat):val [x,y]=x+4294967296*y:=by simp [val]
theorem afp {l:List Nat} (h:Can l) (aX:0<l.length):l.getD (l.length-1) 0≠0:=by
 have h1:l≠[]:=by rintro rfl;simp at aX
 have:=h h1
 rw [ao7] at this
 rw [bz,cq ae]
 exact this
end Go.Lg
namespace Go.Lg
theorem pj {l:List Nat} {k:Nat} (h:k<l.length):val (l.drop k)=l.getD k 0+4294967296*val (l.drop (k+1)):=by
 rw [aap h,val,bz,cq h];rfl
theorem asW {l:List Nat} {k x:Nat} (h:k<l.length):val ((l.set k x).drop k)=x+4294967296*val (l.drop (k+1)):=by
 rw [pj mW,ar6 _ _ _ h,List.drop_set_of_lt ae]
theorem aoW {l:List Nat} (h:bX l) {k j:Nat} (hk:l.length<=k+j):val (l.drop k)<4294967296 ^ j :=
 tZ (aCd h k) bw
theorem adO {l:List Nat} {k x:Nat} (h:k<l.length):val (l.set k x)+4294967296 ^ k*l.getD k 0=val l+4294967296 ^ k*x:=by
 induction l generalizing k with
 | nil=>simp at h
 | cons a l ih =>
  cases k with
  | zero=>simp [val];omega
  | succ k =>
   have:=ih (k:=k) mW
   simp only [List.set_cons_succ,val,List.getD_cons_succ,jg]
   have e1:4294967296 ^ k*4294967296*l.getD k 0=4294967296*(4294967296 ^ k*l.getD k 0):=by rw [fy (4294967296 ^ k),fH]
   have e2:4294967296 ^ k*4294967296*x=4294967296*(4294967296 ^ k*x):=by rw [fy (4294967296 ^ k),fH]
   rw [e1,e2];omega
theorem tL (l:List Nat) (k:Nat) (h:k<=l.length):val l=val (l.take k)+4294967296 ^ k*val (l.drop k):=by
 have:=aeh (l.take k) (l.drop k)
 rwa [List.take_append_drop,eG,lL h] at this
def jU (m n:Nat):Int:=if m<n then -1 else if n<m then 1 else 0
theorem qP {m n:Nat} (h:m<n):jU m n=-1:=by simp [jU,h]
theorem tu {m n:Nat} (h:n<m):jU m n=1:=by simp [jU,h];omega
theorem uq {m n:Nat} (h:m=n):jU m n=0:=by simp [jU,h]
theorem agZ {m n:Nat} (h:(aq m).length<(aq n).length):m<n:=by
 have h1:=acu (cS m);rw [ck] at h1
 apply o8
 intro h2
 have:=oq (Nat.le_of_not_lt h2)
 omega
theorem aiT {a b:List Nat} (ha:bX a) {k:Nat} (hk:k<a.length) (mH:k<b.length) (hd:a.drop (k+1)=b.drop (k+1)) (h:a.getD k 0<b.getD k 0):val a<val b:=by
 rw [tL a k ae,tL b k ae,pj hk,pj mH,hd]
 have h1:val (a.take k)<4294967296 ^ k:=tZ (xp ha k) bw
 have h2:4294967296 ^ k*(a.getD k 0+1)<=4294967296 ^ k*b.getD k 0:=jX _ h
 rw [ez,ez]
 rw [ez] at h2
 omega
theorem aqS {a b:List Nat} {k:Nat} (hk:k<a.length) (mH:k<b.length) (hd:a.drop (k+1)=b.drop (k+1)) (h:a.getD k 0=b.getD k 0):a.drop k=b.drop k:=by
 rw [aap hk,aap mH,hd]
 rw [bz,cq hk,bz,cq mH] at h
 simp only [zU] at h
 rw [h]
theorem azL {a b:List Nat} {k:Nat} (hk:k<a.length) (mH:k<b.length) (hd:a.take k=b.take k) (h:a.getD k 0=b.getD k 0):a.take (k+1)=b.take (k+1):=by
 rw [abT hk,abT mH,hd]
 rw [bz,cq hk,bz,cq mH] at h
 simp only [zU] at h
 rw [h]
theorem aqc {k c:Nat} {a b o:List Nat} (c9:k<o.length) (hv:val (o.take k)+4294967296 ^ k*c=val (a.take k)+val (b.take k)) {s:Nat} (hs:s=c+a.getD k 0+b.getD k 0) :
  val ((o.set k (s % 4294967296)).take (k+1))+4294967296 ^ (k+1)*(s/4294967296)=val (a.take (k+1))+val (b.take (k+1)):=by
 rw [abf _ _ _ c9,pJ a,pJ b,jg]
 have h1:=ace (4294967296 ^ k) s
 have h2:4294967296 ^ k*s=4294967296 ^ k*c+4294967296 ^ k*a.getD k 0+4294967296 ^ k*b.getD k 0:=by rw [hs,ez,ez]
 omega
theorem azp {c:Nat} {a b o:List Nat} (hba:b.length<=a.length) (c9:o.length=a.length+1) (cd:bX o) (hc:c<4294967296) (hv:val (o.take a.length)+4294967296 ^ a.length*c=val (a.take a.length)+val (b.take a.length)) :
  xS (o.set a.length c)=aq (val a+val b):=by
 rw [vC (mO cd _ _ hc)]
 congr 1
 have h1:=abf o a.length c ae
 rw [de bw] at h1
 rw [adb a (bp _),adb b hba] at hv
 omega
theorem arZ {k br:Nat} {a b o:List Nat} (c9:k<o.length) (hv:val (o.take k)+val (b.take k)=val (a.take k)+4294967296 ^ k*br) {y:Nat} (hy:y=br+b.getD k 0) (h:y<=a.getD k 0) :
  val ((o.set k (a.getD k 0-y)).take (k+1))+val (b.take (k+1))=val (a.take (k+1))+4294967296 ^ (k+1)*0:=by
 rw [abf _ _ _ c9,pJ a,pJ b]
 have h2:4294967296 ^ k*a.getD k 0=4294967296 ^ k*(a.getD k 0-y)+4294967296 ^ k*br+4294967296 ^ k*b.getD k 0:=by
  rw [<-ez,<-ez];congr 1;omega
 omega
theorem atx {k br:Nat} {a b o:List Nat} (c9:k<o.length) (hv:val (o.take k)+val (b.take k)=val (a.take k)+4294967296 ^ k*br) {y:Nat} (hy:y=br+b.getD k 0) (h:a.getD k 0<y) (hy2:y<=4294967296) :
  val ((o.set k (4294967296+a.getD k 0-y)).take (k+1))+val (b.take (k+1))=val (a.take (k+1))+4294967296 ^ (k+1)*1:=by
 rw [abf _ _ _ c9,pJ a,pJ b,jg]
 have h2:4294967296 ^ k*4294967296+4294967296 ^ k*a.getD k 0=4294967296 ^ k*(4294967296+a.getD k 0-y)+4294967296 ^ k*br+4294967296 ^ k*b.getD k 0:=by
  rw [<-ez,<-ez,<-ez];congr 1;omega
 omega
theorem asp {br:Nat} {a b o:List Nat} (fQ:bX a) (cd:bX o) (c9:o.length=a.length) (sJ:b.length<=a.length) (hle:val b<=val a)
  (hv:val (o.take a.length)+val (b.take a.length)=val (a.take a.length)+4294967296 ^ a.length*br):xS o=aq (val a-val b):=by
 rw [vC cd]
 congr 1
 rw [adb a (bp _),adb b sJ,adb o ae] at hv
 have h1:=acu cd
 rw [c9] at h1
 cases br with
 | zero=>omega
 | succ n =>
  rw [Nat.mul_succ] at hv
  omega
theorem awg {i j c x:Nat} {b o:List Nat} {v0:Nat} (c9:i+j<o.length) (hv:val o+4294967296 ^ (i+j)*c=v0+4294967296 ^ i*(x*val (b.take j))) {s:Nat}
  (hs:s=c+(x*b.getD j 0+o.getD (i+j) 0)) :
  val (o.set (i+j) (s % 4294967296))+4294967296 ^ (i+(j+1))*(s/4294967296)=v0+4294967296 ^ i*(x*val (b.take (j+1))):=by
 have h1:=adO (x:=s % 4294967296) c9
 have h2:=ace (4294967296 ^ (i+j)) s
 have h3:4294967296 ^ i*(x*val (b.take (j+1)))=4294967296 ^ i*(x*val (b.take j))+4294967296 ^ (i+j)*(x*b.getD j 0):=by
  rw [pJ,ez,ez,lM]
  congr 1
  rw [acR x,fH]
 have h4:4294967296 ^ (i+j)*s=4294967296 ^ (i+j)*c+4294967296 ^ (i+j)*(x*b.getD j 0)+4294967296 ^ (i+j)*o.getD (i+j) 0:=by
  rw [hs,ez,ez];omega
 have h5:4294967296 ^ (i+(j+1))=4294967296 ^ (i+j)*4294967296:=by rw [<-Nat.add_assoc,jg]
 rw [h3,h5]
 omega
theorem aqv {i c x:Nat} {a b o:List Nat} {v0:Nat} (_hi:i<a.length) (c9:i+b.length<o.length) (h0:o.getD (i+b.length) 0=0) (hx:x=a.getD i 0) (hv0:v0=val (a.take i)*val b)
  (hv:val o+4294967296 ^ (i+b.length)*c=v0+4294967296 ^ i*(x*val (b.take b.length))) :
  val (o.set (i+b.length) c)=val (a.take (i+1))*val b:=by
 have h1:=adO (x:=c) c9
 rw [nn] at hv
 have h2:val (a.take (i+1))*val b=v0+4294967296 ^ i*(x*val b):=by
  rw [pJ,hY,hv0,hx,fH]
 rw [h2]
 rw [h0] at h1
 omega
theorem apQ {k d r:Nat} {a q:List Nat} (hk:k<a.length) (hq:q.length=a.length) (hv:val (q.drop (k+1))*d+r=val (a.drop (k+1))) {s:Nat} (hs:s=r*4294967296+a.getD k 0) :
  val ((q.set k (s/d)).drop k)*d+s % d=val (a.drop k):=by
 rw [asW ae,pj hk,<-hv,hY]
 have:=acO s d
 rw [fy (s/d)]
 rw [ez,hs] at *
 have e:4294967296*val (q.drop (k+1))*d=4294967296*(val (q.drop (k+1))*d):=by rw [fH]
 rw [e]
 omega
theorem aoR {d r x:Nat} (hr:r<d) (hx:x<4294967296):(r*4294967296+x)/d<4294967296:=by
 rw [nP ae]
 have:(r+1)*4294967296<=d*4294967296:=fP _ hr
 rw [fy 4294967296];omega
theorem arc {d r:Nat} {a q:List Nat} (hd:0<d) (hr:r<d) (hq:bX q) (hv:val (q.drop 0)*d+r=val (a.drop 0)):xS q=aq (val a/d)/\r=val a % d:=by
 rw [lQ,lQ] at hv
 rw [vC hq,<-hv]
 refine⟨?_,?_⟩
 ·congr 1
  rw [fy,awA hd,aa7 hr];rfl
 ·rw [fy,Nat.mul_add_mod,iF hr]
theorem az1 {k c p:Nat} {a o:List Nat} (c9:k<o.length) (hv:val (o.take k)+4294967296 ^ k*c=val (a.take k)*p) {s:Nat} (hs:s=a.getD k 0*p+c) :
  val ((o.set k (s % 4294967296)).take (k+1))+4294967296 ^ (k+1)*(s/4294967296)=val (a.take (k+1))*p:=by
 rw [abf _ _ _ c9,pJ a,jg,hY]
 have h1:=ace (4294967296 ^ k) s
 have h2:4294967296 ^ k*s=4294967296 ^ k*(a.getD k 0*p)+4294967296 ^ k*c:=by rw [hs,ez]
 have h3:4294967296 ^ k*a.getD k 0*p=4294967296 ^ k*(a.getD k 0*p):=by rw [fH]
 omega
theorem aEM {c p:Nat} {a o:List Nat} (c9:o.length=a.length+1) (hv:val (o.take a.length)+4294967296 ^ a.length*c=val (a.take a.length)*p):val (o.set a.length c)=val a*p:=by
 have h1:=abf o a.length c ae
 rw [de bw] at h1
 rw [adb a (bp _)] at hv
 omega
def dI (n:Nat):Nat:=if n=0 then 0 else n.log2+1
theorem xf {n:Nat}:dI n=0↔n=0:=by unfold dI;split<;>simp_all
theorem vR {n k:Nat}:dI n<=k↔n<2 ^ k:=by
 unfold dI
 split
 ·rename_i h;subst h;simp [lY]
 ·rename_i h
  rw [Nat.succ_le_iff,Nat.log2_lt h]
theorem akG {n k:Nat}:k<dI n↔2 ^ k<=n:=by
 rw [<-Nat.not_le,vR,amJ]
theorem aCU {n:Nat}:dI n=1↔n=1:=by
 have h1:=vR (n:=n) (k:=1)
 have h0:=xf (n:=n)
 simp only [Nat.pow_one] at h1
 omega
theorem aIn {n k:Nat} (h1:2 ^ k<=n) (h2:n<2 ^ (k+1)):dI n=k+1:=by
 have a:=akG.2 h1
 have b:=vR.2 h2
 omega
theorem aiZ {n k:Nat} (h:2 ^ k<=n):dI n=k+dI (n/2 ^ k):=by
 have hp:0<2 ^ k:=lY ae
 have h0:n/2 ^ k≠0:=by
  intro e
  rw [Nat.div_eq_zero_iff] at e
  omega
 have h1:0<dI (n/2 ^ k):=by
  rcases ahy (dI (n/2 ^ k)) with e | e
  ·exact absurd (xf.1 e) h0
  ·exact e
 obtain⟨j,hj⟩:∃ j,dI (n/2 ^ k)=j+1:=⟨_,(Nat.sub_add_cancel h1).symm⟩
 have h2:2 ^ j<=n/2 ^ k:=akG.1 ae
 have h3:n/2 ^ k<2 ^ (j+1):=vR.1 ae
 rw [yW hp,<-lM] at h2
 rw [nP hp,<-lM] at h3
 rw [hj]
 have:=aIn (n:=n) (k:=k+j) (by rwa [pM k]) (by rwa [pM k,akQ])
 omega
theorem aBJ {l:List Nat} (hL:bX l) (h:Can l) (hl:0<l.length):dI (val l)=32*(l.length-1)+dI (l.getD (l.length-1) 0):=by
 have aX:=afp h hl
 have hp:0<4294967296 ^ (l.length-1):=lY ae
 have hd:val (l.drop (l.length-1))=l.getD (l.length-1) 0:=by
  rw [pj ae,show l.length-1+1=l.length by omega,List.drop_length];simp [val]
 have hs:=tL l (l.length-1) ae
 have ht:val (l.take (l.length-1))<4294967296 ^ (l.length-1):=tZ (xp hL _) aT
 rw [hd] at hs
 have aps:(2:Nat) ^ (32*(l.length-1))=4294967296 ^ (l.length-1):=by rw [Nat.pow_mul]
 have kj:4294967296 ^ (l.length-1)*1<=4294967296 ^ (l.length-1)*l.getD (l.length-1) 0:=jX _ ae
 rw [aiZ (k:=32*(l.length-1)) (by rw [aps];omega),aps]
 congr 2
 rw [hs,pM,awA hp,aa7 ht];rfl
end Go.Lg
namespace Go.Lg
section
variable {a b s x c:Nat}
theorem avx (hs:s<64) (h:a*2 ^ s<18446744073709551616):pC .shl .u64 (a:Nat) (s:Nat)=some (.int .u64 ((a*2 ^ s:Nat):Int)):=by
 have e:min ((s:Int)).toNat IntKind.u64.bits=s:=by show min s 64=s;omega
 have e2:(a:Int)*2 ^ s=((a*2 ^ s:Nat):Int):=by simp
 simp only [pC]
 rw [if_neg ae,e,e2,IntWalk.u64_in _ ae]
theorem aeu {k:IntKind} {m:Nat} (hm:m<=k.bits):pC .shr k (a:Nat) (m:Nat)=some (.int k ((a/2 ^ m:Nat):Int)):=by
 have e:min ((m:Int)).toNat k.bits=m:=by show min m k.bits=m;omega
 simp only [pC]
 rw [if_neg ae,e,akm _ (Int.pow_nonneg ae)]
 congr 2
theorem orV (hc:c<2 ^ s) (h:x*2 ^ s+c<18446744073709551616):dL .or .u64 (c:Nat) ((x*2 ^ s:Nat):Int)=some (.int .u64 ((x*2 ^ s+c:Nat):Int)):=by
 have e:(tI IntKind.u64.bits (c:Int) ||| tI IntKind.u64.bits ((x*2 ^ s:Nat):Int)).toNat=x*2 ^ s+c:=by
  rw [aaP,aaP,alM,aaL,aaL]
  have e1:x*2 ^ s % 2 ^ IntKind.u64.bits=x*2 ^ s:=iF (by show _<18446744073709551616;omega)
  have e2:c % 2 ^ IntKind.u64.bits=c:=iF (by show _<18446744073709551616;omega)
  rw [e1,e2,arp]
  have:=akZ (i:=s) (b:=c) hc x
  rw [alo] at this
  exact this.symm
 simp only [dL,e]
 rw [IntWalk.u64_in _ ae]
theorem tbl {s:ByteArray} (h:(cW 256).all (fun n=>s[n]?==some (UInt8.ofNat (dI n)))=true) {n:Nat} (hn:n<256):s[n]?=some (UInt8.ofNat (dI n)):=by
 rw [oR] at h
 simpa using h n (by simpa using hn)
end
def iS:Nat->Nat->List Nat
 | 0,_=>[]
 | k+1,m=>m % 4294967296 :: iS k (m/4294967296)
theorem adi:∀ k m,(iS k m).length=k
 | 0,_=>rfl
 | k+1,m=>by simp [iS,adi k]
theorem an1:∀ k m,bX (iS k m)
 | 0,_=>fun x h=>by simp [iS] at h
 | k+1,m=>fun x h=>by
   simp only [iS,fu] at h
   rcases h with rfl | h
   ·omega
   ·exact an1 k _ x h
theorem ajd:∀ {o:List Nat} {k:Nat},bX o->o.length=k->o=iS k (val o)
 | [],k,_,h=>by subst h;rfl
 | x :: xs,k,hl,h=>by
   subst h
   have hx:=hl x aT
   have ih:=ajd (o:=xs) (k:=xs.length) (fun y hy=>hl y (by simp [hy])) rfl
   simp only [qJ,iS,val]
   have e1:(x+4294967296*val xs) % 4294967296=x:=by omega
   have e2:(x+4294967296*val xs)/4294967296=val xs:=by omega
   rw [e1,e2,<-ih]
theorem ang:∀ {k m:Nat},m<4294967296 ^ k->val (iS k m)=m
 | 0,m,h=>by simp at h;subst h;rfl
 | k+1,m,h=>by
   simp only [iS,val]
   rw [ang (k:=k) (by rw [nP ae];rwa [jg] at h)]
   omega
section
variable {P:Program} {ρ:Operand->LV} {α:Type} {e:α->LV}
theorem dA.au8 {T E:TypeId} {x y:Operand} {d sz:Nat} {ag:Bool} {z a b:α} (he:iJ e sz ag) (hT:P.underlying T=some (.slice E)) (hz:dj P E (e z)) (hE:bC P E sz ag) (hx:ρ x=e a) (hy:ρ y=e b) (dM:0<sz) (ku:sz<=1000) :
  dA P ρ d (.buildSlice T 2 #[(0,x),(1,y)]) (.ref d sz 0 2) ⟨sz,[a,b].map e,true⟩:=by
 have:=dA.lit (P:=P) (ρ:=ρ) (d:=d) (T:=T) (n:=2) (ps:=#[(0,x),(1,y)]) hT hz (by rw [he.isAgg];exact hE) (he.aw z) ae ae dM (by
  intro p hp
  simp only [fu,jn,or_false] at hp
  rcases hp with rfl | rfl
  ·refine⟨by simp,?_,by rw [hx];exact LV.fk (he.pure _),by rw [hx];exact LV.eP (he.pure _)⟩
   simp [lay,hx,he.aw,he.isAgg]
  ·refine⟨by simp,?_,by rw [hy];exact LV.fk (he.pure _),by rw [hy];exact LV.eP (he.pure _)⟩
   simp [lay,hy,he.aw,he.isAgg])
 simpa [jR,hx,hy,ay] using this
end
section
variable {P:Program} {n:Nat} {W w:World} {X:XS} {Z0:Nat->Prop} {L:St} {a:Act} {K:St->Prop} {Q:jW->St->Prop}
theorem aCP {s0 d1 d2 sz:Nat} {l:List LV} {T E ty ty' U:TypeId} {pos pos':String} {af af':Array Edge} (h0:L.slot s0=.list sz l) (hT:P.underlying T=some (.slice E))
  (hK:∀ b:Bool,(b=true->l=[])->Q .normal ((L.put (some d1) (.list sz l)).put (some d2) (.v (.bool b)))) :
  ∀ n W X Z0 a w,fV n W X Z0 L a w->lf n (.region 0 [Oper.mk (some d1) (.move (.tmp s0)) ty pos af none,Oper.mk (some d2) (.binOp .eql T (.tmp d1) (.const (.slice none 0 0)) U) ty' pos' af' none].toArray false)=true ->
   ∀ id,(Code.region id [Oper.mk (some d1) (.move (.tmp s0)) ty pos af none,Oper.mk (some d2) (.binOp .eql T (.tmp d1) (.const (.slice none 0 0)) U) ty' pos' af' none].toArray false).wp P (acH n W X Z0 Q) a w:=by
 intro n W X Z0 a w hs hd id
 simp only [lf,List.all_cons,List.all_nil,Bool.and_true,jq,decide_eq_true_eq] at hd
 refine wp_region_list ?_
 have h1:=acG (P:=P) (dr:=false) (ops:=[Oper.mk (some d1) (.move (.tmp s0)) ty pos af none,Oper.mk (some d2) (.binOp .eql T (.tmp d1) (.const (.slice none 0 0)) U) ty' pos' af' none].toArray)
  (o:=Oper.mk (some d1) (.move (.tmp s0)) ty pos af none) hs (L':=L.put (some d1) (.list sz l))
  (.val (r:=.list sz l) (fr:=[]) (H1:=L.heap) rfl (bW.le_refl _) (fun _ _ h=>by cases h) (.pure (by have:=aE.move (P:=P) (H:=L.heap) (ρ:=L.ev) (.tmp s0);rwa [show L.ev (.tmp s0)=LV.list sz l from h0] at this)) rfl)
  (fun t ht=>by cases ht;exact hd.1)
  (K:=wpList P [Oper.mk (some d1) (.move (.tmp s0)) ty pos af none,Oper.mk (some d2) (.binOp .eql T (.tmp d1) (.const (.slice none 0 0)) U) ty' pos' af' none].toArray (acH n W X Z0 Q)
   [Oper.mk (some d2) (.binOp .eql T (.tmp d1) (.const (.slice none 0 0)) U) ty' pos' af' none]) (Q:=acH n W X Z0 Q) (fun a' w' l8=>?_)
 ·unfold wpList
  split
  ·rename_i h;rw [if_pos h] at h1;exact .inl h1
  ·rename_i h;rw [if_neg h] at h1;exact h1
 ·obtain⟨ec,bJ,μ,Z,hc,hr⟩:=l8
  have e1:=hr d1
  rw [g8,if_pos rfl] at e1
  have e2:=e1.2 rfl
  simp only [aC] at e2
  obtain⟨ad,len,cap,q1,q2,q3,q4,q5⟩:=e2
  simp only [fJ,and_true] at q1
  have gG:a'.eval (.tmp d1)=.slice ad len cap:=q1
  have hw:Region.wanted (Oper.mk (some d2) (.binOp .eql T (.tmp d1) (.const (.slice none 0 0)) U) ty' pos' af' none) (yielded [Oper.mk (some d1) (.move (.tmp s0)) ty pos af none,Oper.mk (some d2) (.binOp .eql T (.tmp d1) (.const (.slice none 0 0)) U) ty' pos' af' none].toArray a'.tmps)=true:=rfl
  unfold wpList
  rw [if_pos hw]
  left
  have fg:(execOp a'.eval (Oper.mk (some d2) (.binOp .eql T (.tmp d1) (.const (.slice none 0 0)) U) ty' pos' af' none)).run P w'=.ok (.value (.bool ad.isNone)) w':=by
   have hv:a'.eval (.const (.slice none 0 0))=.slice none 0 0:=rfl
   simp only [execOp,gG,hv]
   simp [eqGuard,binOp,run_equal_slice_nil w' T E ad len cap hT]
  unfold Oper.wp
  rw [fg,Oper.upon_value]
  refine⟨_,hK ad.isNone ?_,by rw [put_defers];exact ec,by rw [rm];exact bJ,μ,Z,by rw [lH];exact hc,rp (fun t ht=>by cases ht;rw [bJ];exact hd.2) hr bj.bool⟩
  intro hb
  rcases q4 with q4 | ⟨blk,off,c,T',fz,part,rest,g1,_⟩
  ·exact q4
  ·rw [g1] at hb;cases hb
end
section
variable {R V p vt v2 vl top u2 rl:Nat}
theorem aHu (hV:V=(vt*4294967296+v2)*p+vl) (hR:R=(top*4294967296+u2)*p+rl) (mR:rl<p) (vq:u2<4294967296) (uk:0<vt):R/V<=top/vt:=by
 rw [yW uk]
 have h1:R/V*V<=R:=Nat.div_mul_le_self R V
 have h2:R/V*(vt*4294967296*p)<=R/V*V:=jX _ (by rw [hV,hY];omega)
 have h3:R<(top+1)*4294967296*p:=by
  rw [hR]
  have:(top*4294967296+u2+1)*p<=(top+1)*4294967296*p:=fP _ ae
  rw [hY _ 1] at this;omega
 have h4:R/V*vt*(4294967296*p)<(top+1)*(4294967296*p):=by
  have e1:R/V*vt*(4294967296*p)=R/V*(vt*4294967296*p):=by simp only [fH]
  have e2:(top+1)*(4294967296*p)=(top+1)*4294967296*p:=by simp only [fH]
  rw [e1,e2];omega
 exact Nat.le_of_lt_succ (awE h4)
theorem azH {x rest:Nat} (hV:V=(vt*4294967296+v2)*p+vl) (hR:R=(top*4294967296+u2)*p+rl) (mR:rl<p) (lh:0<V)
  (hx:x*vt+rest=top) (h:rest*4294967296+u2<x*v2):R/V<x:=by
 rw [nP lh]
 have h1:x*((vt*4294967296+v2)*p)<=x*V:=jX _ (by rw [hV];omega)
 have h2:top*4294967296+u2+1<=x*(vt*4294967296+v2):=by
  rw [<-hx,hY,ez,fH];omega
 have h3:(top*4294967296+u2+1)*p<=x*(vt*4294967296+v2)*p:=fP _ h2
 rw [hY _ 1] at h3
 rw [fH] at h3
 omega
theorem arK {x rest:Nat} (hV:V=(vt*4294967296+v2)*p+vl) (hR:R=(top*4294967296+u2)*p+rl) (r7:vl<p) (uk:0<vt) (lh:0<V)
  (hx:x*vt+rest=top) (hxB:x<=4294967296) (h:x*v2<=rest*4294967296+u2):x<=R/V+1:=by
 cases x with
 | zero=>exact b8 _
 | succ y =>
  have:y<=R/V:=by
   rw [yW lh]
   have h1:(y+1)*(vt*4294967296+v2)<=top*4294967296+u2:=by
    rw [<-hx,ez,hY _ rest,<-fH];omega
   have h2:(y+1)*(vt*4294967296+v2)*p<=(top*4294967296+u2)*p:=fP _ h1
   have h3:y*vl<=y*p:=jX _ (x9 r7)
   have h4:y*p<=4294967296*p:=fP _ ae
   have h5:4294967296*p<=(vt*4294967296+v2)*p:=fP _ ae
   have h6:y*V=y*(vt*4294967296+v2)*p+y*vl:=by rw [hV,ez,fH]
   have h7:(y+1)*(vt*4294967296+v2)*p=y*(vt*4294967296+v2)*p+(vt*4294967296+v2)*p:=by rw [hY,hY,ae8]
   omega
  omega
theorem aIY {un u1:Nat} (hV:V=(vt*4294967296+v2)*p+vl) (hR:R=((un*4294967296+u1)*4294967296+u2)*p+rl) (r7:vl<p) (hv2:v2<4294967296) (hRV:R<V*4294967296):un<=vt:=by
 apply o8
 intro h
 have h1:(vt+1)*4294967296<=un*4294967296:=by omega
 have h2:(vt*4294967296+v2+1)*4294967296<=(un*4294967296+u1)*4294967296+u2:=by
  have:(vt*4294967296+v2+1)<=un*4294967296+u1:=by omega
  exact a9 (fP 4294967296 this) (Nat.le_add_right _ _)
 have h3:(vt*4294967296+v2+1)*4294967296*p<=((un*4294967296+u1)*4294967296+u2)*p:=fP _ h2
 have h4:V<=(vt*4294967296+v2+1)*p:=by rw [hV,hY _ 1];omega
 have h5:V*4294967296<=(vt*4294967296+v2+1)*p*4294967296:=fP _ h4
 have h6:(vt*4294967296+v2+1)*p*4294967296=(vt*4294967296+v2+1)*4294967296*p:=by rw [axQ]
 omega
theorem axt {x rest un u1:Nat} (hx:x*vt+rest=un*4294967296+u1) (hun:un<=vt) (zA:u1<4294967296) (hv2:v2<4294967296) (hr:4294967296<=rest):x<4294967296/\x*v2<=rest*4294967296+u2:=by
 have hxl:x<4294967296:=by
  apply o8
  intro h
  have h1:4294967296*vt<=x*vt:=fP vt ae
  omega
 refine⟨hxl,?_⟩
 have h1:x*v2<=4294967296*4294967296:=nz (x9 hxl) (x9 hv2)
 have h2:4294967296*4294967296<=rest*4294967296:=fP _ hr
 omega
end
theorem aEz {l:List Nat} {k:Nat} (h:val l<4294967296 ^ k):∀ p,k<=p->l.getD p 0=0:=fun p hp=>by
 apply o8
 intro h0
 have bM:p<l.length:=by
  apply o8
  intro hh
  exact h0 (uR l p ae)
 have h1:=tL l p ae
 rw [pj bM] at h1
 have h2:4294967296 ^ k<=4294967296 ^ p:=lO ae hp
 have h3:4294967296 ^ p*1<=4294967296 ^ p*(l.getD p 0+4294967296*val (l.drop (p+1))):=jX _ ae
 omega
theorem agc:∀ {l:List Nat},(∀ p,l.getD p 0=0)->val l=0
 | [],_=>rfl
 | x :: xs,h=>by
   have h0:x=0:=by simpa using h 0
   have:=agc (l:=xs) (fun p=>by simpa using h (p+1))
   simp [val,h0,this]
theorem afA (l:List Nat) (k p:Nat):(l.drop k).getD p 0=l.getD (k+p) 0:=by
 rw [bz,bz,sA]
theorem aFi {l:List Nat} {k:Nat} (hl:bX l) (h:∀ p,k<=p->l.getD p 0=0):val l<4294967296 ^ k:=by
 by_cases hk:k<=l.length
 ·rw [tL l k hk,agc (l:=l.drop k) (fun p=>by rw [afA];exact h _ ae),aaf,mf]
  exact tZ (xp hl k) bw
 ·exact tZ hl ae
theorem aB9 {l:List Nat} {k:Nat} (hk:k+2<l.length) (hz:∀ p,k+3<=p->l.getD p 0=0) :
  val l=((l.getD (k+2) 0*4294967296+l.getD (k+1) 0)*4294967296+l.getD k 0)*4294967296 ^ k+val (l.take k):=by
 have h3:val (l.drop (k+2+1))=0:=agc (fun p=>by rw [afA];exact hz _ ae)
 rw [tL l k ae,pj ae,pj (k:=k+1) ae,pj (k:=k+1+1) ae,h3,fy (4294967296 ^ k),pM,show k+1+1=k+2 from rfl]
 congr 2
 omega
theorem aGT {l:List Nat} {k:Nat} (hk:k+2=l.length):val l=(l.getD (k+1) 0*4294967296+l.getD k 0)*4294967296 ^ k+val (l.take k):=by
 have h3:val (l.drop (k+1+1))=0:=by rw [jQ ae];rfl
 rw [tL l k ae,pj ae,pj (k:=k+1) ae,h3,fy (4294967296 ^ k),pM]
 congr 2
 omega
theorem ay5 {i j c br x:Nat} {v ul:List Nat} {v0:Nat} (mi:i+j<ul.length) (gE:bX ul) (nW:br<=1)
  (hv:val ul+4294967296 ^ j*(x*val (v.take i))=v0+4294967296 ^ (i+j)*(c+br)) {c1 d:Nat} (wm:c1=c+x*v.getD i 0)
  (hd:d=(18446744073709551616+(18446744073709551616+ul.getD (i+j) 0-c1 % 4294967296) % 18446744073709551616-br) % 18446744073709551616) :
  d/9223372036854775808<=1/\bX (ul.set (i+j) (d % 4294967296)) /\
   val (ul.set (i+j) (d % 4294967296))+4294967296 ^ j*(x*val (v.take (i+1)))=v0+4294967296 ^ (i+1+j)*(c1/4294967296+d/9223372036854775808):=by
 have hu:=jc gE (i+j)
 refine⟨ae,mO gE _ _ ae,?_⟩
 have h1:=adO (x:=d % 4294967296) mi
 have h2:d % 4294967296+c1 % 4294967296+br=ul.getD (i+j) 0+4294967296*(d/9223372036854775808):=by omega
 have h3:4294967296 ^ (i+j)*(d % 4294967296)+4294967296 ^ (i+j)*(c1 % 4294967296)+4294967296 ^ (i+j)*br=4294967296 ^ (i+j)*ul.getD (i+j) 0+4294967296 ^ (i+j)*4294967296*(d/9223372036854775808):=by
  rw [<-ez,<-ez,h2,ez,fH]
 have h4:=ace (4294967296 ^ (i+j)) c1
 have h5:4294967296 ^ (i+j)*c1=4294967296 ^ (i+j)*c+4294967296 ^ j*(x*(4294967296 ^ i*v.getD i 0)):=by
  rw [wm,ez,lM]
  congr 1
  simp only [fH,acR,fy]
 have h6:4294967296 ^ (i+1+j)=4294967296 ^ (i+j)*4294967296:=by rw [akQ,jg]
 rw [pJ,ez x,ez,h6,ez]
 rw [ez] at hv
 omega
theorem ao8 {j n c br x t:Nat} {ul:List Nat} {V v0:Nat} (mi:n+j<ul.length) (gE:bX ul) (nW:br<=1) (hc:c<4294967296)
  (hv:val ul+4294967296 ^ j*(x*V)=v0+4294967296 ^ (n+j)*(c+br)) (ht:t=ul.getD (n+j) 0) {d:Nat}
  (hd:d=(18446744073709551616+(18446744073709551616+t-c) % 18446744073709551616-br) % 18446744073709551616) :
  bX (ul.set (n+j) (d % 4294967296))/\d/9223372036854775808<=1 /\
   val (ul.set (n+j) (d % 4294967296))+4294967296 ^ j*(x*V)=v0+4294967296 ^ (n+j+1)*(d/9223372036854775808):=by
 have hu:=jc gE (n+j)
 refine⟨mO gE _ _ ae,ae,?_⟩
 have h1:=adO (x:=d % 4294967296) mi
 have h2:d % 4294967296+c+br=t+4294967296*(d/9223372036854775808):=by omega
 have h3:4294967296 ^ (n+j)*(d % 4294967296)+4294967296 ^ (n+j)*c+4294967296 ^ (n+j)*br=4294967296 ^ (n+j)*t+4294967296 ^ (n+j)*4294967296*(d/9223372036854775808):=by
  rw [<-ez,<-ez,h2,ez,fH]
 rw [jg]
 rw [ez] at hv
 rw [<-ht] at h1
 omega
theorem ayR {i j c:Nat} {v ul:List Nat} {v0:Nat} (mi:i+j<ul.length) (gE:bX ul) (hv:val ul+4294967296 ^ (i+j)*c=v0+4294967296 ^ j*val (v.take i)) {s:Nat} (hs:s=c+(ul.getD (i+j) 0+v.getD i 0)) :
  bX (ul.set (i+j) (s % 4294967296))/\val (ul.set (i+j) (s % 4294967296))+4294967296 ^ (i+1+j)*(s/4294967296)=v0+4294967296 ^ j*val (v.take (i+1)):=by
 refine⟨mO gE _ _ ae,?_⟩
 have h1:=adO (x:=s % 4294967296) mi
 have h2:=ace (4294967296 ^ (i+j)) s
 have h3:4294967296 ^ (i+j)*s=4294967296 ^ (i+j)*c+4294967296 ^ (i+j)*ul.getD (i+j) 0+4294967296 ^ j*(4294967296 ^ i*v.getD i 0):=by
  rw [hs,ez,ez,lM]
  simp only [fH,acR,fy]
  omega
 have h6:4294967296 ^ (i+1+j)=4294967296 ^ (i+j)*4294967296:=by rw [akQ,jg]
 rw [pJ,ez,h6]
 omega
end Go.Lg
namespace Go.Lg
theorem uB (k:Nat):0<4294967296 ^ k:=lY ae
theorem ahN {ul:List Nat} {V n j:Nat} (hVn:V<4294967296 ^ n) (bM:val ul<V*4294967296 ^ (j+1)):∀ p,n+j+1<=p->ul.getD p 0=0:=by
 apply aEz
 have h1:V*4294967296 ^ (j+1)<=4294967296 ^ n*4294967296 ^ (j+1):=fP _ (x9 hVn)
 rw [<-lM] at h1
 exact yw bM h1
theorem amt {ul:List Nat} {V n j:Nat} (hn:(aq V).length=n+2) (mi:n+2+j<ul.length) (gE:bX ul) (bM:val ul<V*4294967296 ^ (j+1)) :
  ∃ vl rl,vl<4294967296 ^ n/\rl<4294967296 ^ n/\V=((aq V).getD (n+1) 0*4294967296+(aq V).getD n 0)*4294967296 ^ n+vl /\
   val ul/4294967296 ^ j=((ul.getD (n+2+j) 0*4294967296+ul.getD (n+1+j) 0)*4294967296+ul.getD (n+j) 0)*4294967296 ^ n+rl /\
   val ul/4294967296 ^ j<V*4294967296:=by
 have hVn:V<4294967296 ^ (n+2):=uK ae
 have hz:=ahN hVn bM
 have h1:=aGT (l:=aq V) (k:=n) ae
 have h2:=aB9 (l:=ul) (k:=n+j) ae (fun p hp=>hz p ae)
 rw [ck] at h1
 refine⟨val ((aq V).take n),val (ul.take (n+j))/4294967296 ^ j,tZ (xp (cS V) _) bw,?_,h1,?_,?_⟩
 ·rw [nP (uB j),<-lM]
  exact tZ (xp gE _) bw
 ·have e1:n+j+2=n+2+j:=by omega
  have e2:n+j+1=n+1+j:=by omega
  rw [e1,e2] at h2
  rw [h2,lM,<-fH,pM,Nat.add_mul_div_right _ _ (uB j),pM]
 ·rw [nP (uB j)]
  rw [jg] at bM
  have e:V*4294967296*4294967296 ^ j=V*(4294967296 ^ j*4294967296):=by rw [fH,fy 4294967296]
  rw [e];exact bM
section
variable {ul ul0:List Nat} {V n j x:Nat}
theorem aAG (h:val ul+4294967296 ^ j*(x*V)=val ul0) (hV:0<V):x<=val ul0/4294967296 ^ j/V:=by
 rw [yW hV,yW (uB j),fy _ (4294967296 ^ j)]
 omega
theorem aCR (h:val ul+4294967296 ^ j*(x*V)=val ul0+4294967296 ^ (n+j+1)) (bM:val ul<4294967296 ^ (n+j+1)) (hV:0<V):val ul0/4294967296 ^ j/V<x:=by
 rw [nP hV,nP (uB j),fy _ (4294967296 ^ j)]
 omega
theorem aCZ {ul3:List Nat} {c:Nat} (hx:0<x) (hxV:4294967296 ^ j*((x-1)*V)<=val ul0) (h:val ul+4294967296 ^ j*(x*V)=val ul0+4294967296 ^ (n+j+1)) (mi:n+j<ul3.length) (nj:bX ul3) (hz:∀ p,n+j+1<=p->ul3.getD p 0=0)
  (hc:c<=1) (h3:val ul3+4294967296 ^ (n+j)*c=val ul+4294967296 ^ j*V) {t:Nat} (ht:t=ul3.getD (n+j) 0) :
  bX (ul3.set (n+j) ((t+c) % 4294967296))/\val (ul3.set (n+j) ((t+c) % 4294967296))+4294967296 ^ j*((x-1)*V)=val ul0:=by
 have hs:=tL ul3 (n+j) ae
 rw [pj mi,agc (l:=ul3.drop (n+j+1)) (fun p=>by rw [afA];exact hz _ ae),aaf,mf,<-ht] at hs
 have aaX:val (ul3.take (n+j))<4294967296 ^ (n+j):=tZ (xp nj _) bw
 have htl:=jc nj (n+j)
 rw [<-ht] at htl
 obtain⟨y,rfl⟩:∃ y,x=y+1:=⟨x-1,ae⟩
 rw [lP] at *
 have e1:4294967296 ^ j*((y+1)*V)=4294967296 ^ j*(y*V)+4294967296 ^ j*V:=by rw [hY,ae8,ez]
 rw [e1] at h
 have h4:val (ul3.take (n+j))+4294967296 ^ (n+j)*(t+c)=(val ul0-4294967296 ^ j*(y*V))+4294967296 ^ (n+j)*4294967296:=by
  rw [ez,<-jg];omega
 have h5:4294967296<=t+c:=by
  apply o8
  intro hh
  have:4294967296 ^ (n+j)*(t+c+1)<=4294967296 ^ (n+j)*4294967296:=jX _ ae
  rw [ez _ (t+c)] at this
  omega
 have h6:t+c=4294967296:=by omega
 rw [h6] at h4 ⊢
 refine⟨mO nj _ _ ae,?_⟩
 have h7:=adO (x:=4294967296 % 4294967296) mi
 rw [<-ht,awr,aaf,mf] at h7
 rw [awr]
 omega
theorem ars {ql:List Nat} {U0:Nat} (hV:0<V) (hx:x=val ul0/4294967296 ^ j/V) (h:val ul+4294967296 ^ j*(x*V)=val ul0) (hj:j<ql.length)
  (hv:val ul0+V*4294967296 ^ (j+1)*val (ql.drop (j+1))=U0) :
  val ul+V*4294967296 ^ j*val ((ql.set j x).drop j)=U0/\val ul<V*4294967296 ^ j:=by
 constructor
 ·rw [asW hj,<-hv,<-h,ez]
  have e1:V*4294967296 ^ j*x=4294967296 ^ j*(x*V):=by simp only [fH,acR,fy]
  have e2:V*4294967296 ^ j*(4294967296*val (ql.drop (j+1)))=V*4294967296 ^ (j+1)*val (ql.drop (j+1)):=by
   rw [jg];simp only [fH]
  rw [e1,e2];omega
 ·have h1:val ul0/4294967296 ^ j<(x+1)*V:=by
   rw [<-nP hV,hx];omega
  rw [nP (uB j)] at h1
  have e:(x+1)*V*4294967296 ^ j=4294967296 ^ j*(x*V)+V*4294967296 ^ j:=by
   rw [hY,hY,ae8,fy (x*V)]
  rw [e] at h1;omega
end
theorem aIR {s:Nat} (hs:s<32):2 ^ s<=2147483648:=lO (n:=2) ae (show s<=31 by omega)
theorem aJo {top:Nat} (h0:0<top) (h:top<4294967296):2147483648<=top*2 ^ (32-dI top)/\top*2 ^ (32-dI top)<4294967296:=by
 have h1:dI top<=32:=vR.2 h
 have h2:1<=dI top:=by
  rcases ahy (dI top) with e | e
  ·exact absurd (xf.1 e) ae
  ·exact e
 have h3:2 ^ (dI top-1)<=top:=akG.1 ae
 have h4:top<2 ^ dI top:=vR.1 (bp _)
 constructor
 ·have:=fP (2 ^ (32-dI top)) h3
  rw [<-lM,show dI top-1+(32-dI top)=31 by omega] at this
  exact this
 ·have:=akn h4 (lY (n:=32-dI top) (show 0<2 by omega))
  rw [<-lM,show dI top+(32-dI top)=32 by omega] at this
  exact this
theorem asK {Bv n s:Nat} (hn:(aq Bv).length=n+1) (hs:s=32-dI ((aq Bv).getD n 0)):s<32/\(aq (Bv*2 ^ s)).length=n+1/\2147483648*4294967296 ^ n<=Bv*2 ^ s/\Bv*2 ^ s<4294967296 ^ (n+1):=by
 have aX:=afp (afh Bv) (by omega:0<(aq Bv).length)
 rw [hn,lP] at aX
 have ab5:=iQ Bv n
 obtain⟨h1,h2⟩:=aJo (vc aX) ab5
 rw [<-hs] at h1 h2
 have hv:Bv=4294967296 ^ n*(aq Bv).getD n 0+val ((aq Bv).take n):=by
  have:=tL (aq Bv) n ae
  rw [pj ae,show (aq Bv).drop (n+1)=[] from jQ ae,ck] at this
  simp only [val,aaf,mf] at this
  omega
 have aaX:val ((aq Bv).take n)<4294967296 ^ n:=tZ (xp (cS Bv) _) bw
 have kj:2147483648*4294967296 ^ n<=Bv*2 ^ s:=by
  have:=jX (4294967296 ^ n) h1
  have e:4294967296 ^ n*((aq Bv).getD n 0*2 ^ s)<=Bv*2 ^ s:=by
   rw [<-fH];exact fP _ ae
  rw [fy] at this;omega
 have bM:Bv*2 ^ s<4294967296 ^ (n+1):=by
  have hp:0<2 ^ s:=lY ae
  have e1:Bv<4294967296 ^ n*((aq Bv).getD n 0+1):=by rw [ez];omega
  have e2:=akn e1 hp
  have e3:(aq Bv).getD n 0*2 ^ s+2 ^ s<=4294967296:=by
   have tG:s<=32:=by omega
   have hd:4294967296=2 ^ (32-s)*2 ^ s:=by rw [<-lM,show 32-s+s=32 by omega]
   rw [hd] at h2 ⊢
   have:=awE h2
   have:=fP (2 ^ s) this
   rw [Nat.succ_mul] at this
   exact this
  rw [fH,hY,ae8] at e2
  have e4:=jX (4294967296 ^ n) e3
  rw [jg];omega
 refine⟨?_,?_,kj,bM⟩
 ·rcases ahy (dI ((aq Bv).getD n 0)) with e | e
  ·exact absurd (xf.1 e) aX
  ·omega
 ·have h3:=xw bM
  have h4:n<(aq (Bv*2 ^ s)).length:=by
   apply o8
   intro hh
   have:=uK (n:=Bv*2 ^ s) (k:=n) ae
   have:=fP (4294967296 ^ n) (show 1<=2147483648 by omega)
   omega
  omega
theorem auN {V n:Nat} (hn:(aq V).length=n+1) (kj:2147483648*4294967296 ^ n<=V):2147483648<=(aq V).getD n 0:=by
 have hv:=tL (aq V) n ae
 rw [pj ae,show (aq V).drop (n+1)=[] from jQ ae,ck] at hv
 simp only [val,aaf,mf] at hv
 have aaX:val ((aq V).take n)<4294967296 ^ n:=tZ (xp (cS V) _) bw
 apply o8
 intro hh
 have:=jX (4294967296 ^ n) (show (aq V).getD n 0+1<=2147483648 by omega)
 rw [ez,fy _ 2147483648] at this
 omega
theorem ayT {A Bv s n m:Nat} (hs:s<32) (hm:(aq A).length=m) (kh:n+1<=m) (kj:2147483648*4294967296 ^ n<=Bv*2 ^ s):A*2 ^ s<Bv*2 ^ s*4294967296 ^ (m+1-(n+1))/\A*2 ^ s<4294967296 ^ (m+1):=by
 have hA:A<4294967296 ^ m:=uK ae
 have hp:=aIR hs
 have h1:A*2 ^ s<4294967296 ^ m*2147483648:=yw (akn hA (lY ae)) (jX _ hp)
 constructor
 ·have h2:=fP (4294967296 ^ (m+1-(n+1))) kj
  rw [fH,<-lM,show n+(m+1-(n+1))=m by omega] at h2
  omega
 ·rw [jg];exact aoc h1 (Nat.mul_lt_mul_of_pos_left ae (uB m))
theorem asj {A Bv s:Nat} {ul ql:List Nat} (hB:0<Bv) (h:val ul+Bv*2 ^ s*val ql=A*2 ^ s) (bM:val ul<Bv*2 ^ s):val ql=A/Bv/\val ul=A % Bv*2 ^ s:=by
 have hp:0<2 ^ s:=lY ae
 have h1:val ul=A*2 ^ s % (Bv*2 ^ s):=by
  rw [<-h,Nat.add_mul_mod_self_left,iF bM]
 have h2:val ql=A*2 ^ s/(Bv*2 ^ s):=by
  rw [<-h,Nat.add_mul_div_left _ _ (by exact nt hB hp),aa7 bM,fw]
 rw [at0] at h1
 rw [Nat.mul_div_mul_right _ _ hp] at h2
 exact⟨h2,h1⟩
theorem ajG {i s:Nat} {w o:List Nat} (hi:i<w.length) (hs:s<32) (hd:w.getD i 0=o.getD i 0) (hv:2 ^ s*val (w.take i)=val (o.take i)+4294967296 ^ i*(o.getD i 0 % 2 ^ s)) {y:Nat} (hy:y=o.getD i 0/2 ^ s+o.getD (i+1) 0 % 2 ^ s*2 ^ (32-s)) :
  2 ^ s*val ((w.set i y).take (i+1))=val (o.take (i+1))+4294967296 ^ (i+1)*(o.getD (i+1) 0 % 2 ^ s):=by
 rw [abf _ _ _ hi,pJ o,ez,hv,jg]
 have h1:=acO (o.getD i 0) (2 ^ s)
 have h2:2 ^ s*(o.getD (i+1) 0 % 2 ^ s*2 ^ (32-s))=4294967296*(o.getD (i+1) 0 % 2 ^ s):=by
  rw [acR,<-lM,show s+(32-s)=32 by omega,fy]
 have h3:2 ^ s*(4294967296 ^ i*y)=4294967296 ^ i*(2 ^ s*(o.getD i 0/2 ^ s))+4294967296 ^ i*4294967296*(o.getD (i+1) 0 % 2 ^ s):=by
  rw [acR,hy,ez,h2,ez,fH]
 have h4:4294967296 ^ i*o.getD i 0=4294967296 ^ i*(2 ^ s*(o.getD i 0/2 ^ s))+4294967296 ^ i*(o.getD i 0 % 2 ^ s):=by rw [<-ez,h1]
 omega
section
variable {a b s x c:Nat}
theorem aEp:dL .and .u64 (a:Nat) 4294967295=some (.int .u64 ((a % 4294967296:Nat):Int)):=by
 have e:(tI IntKind.u64.bits (a:Int) &&& tI IntKind.u64.bits (4294967295:Int)).toNat=a % 4294967296:=by
  have h1:(4294967295:Int)=((4294967295:Nat):Int):=rfl
  rw [h1,aaP,aaP,BitVec.toNat_and,aaL,aaL]
  have h2:4294967295 % 2 ^ IntKind.u64.bits=2 ^ 32-1:=rfl
  rw [h2,Nat.and_two_pow_sub_one_eq_mod]
  show a % 18446744073709551616 % 4294967296=a % 4294967296
  omega
 simp only [dL,e]
 rw [IntWalk.u64_in _ ae]
theorem aFy:dL .add .u32 (a:Nat) (b:Nat)=some (.int .u32 (((a+b) % 4294967296:Nat):Int)):=by
 simp only [dL];rw [IntKind.wrap_u32];congr 2
theorem ayC (hs:s<=32):pC .shl .u32 (a:Nat) ((s:Nat):Int)=some (.int .u32 ((a % 2 ^ (32-s)*2 ^ s:Nat):Int)):=by
 have e:min ((s:Int)).toNat IntKind.u32.bits=s:=by show min s 32=s;omega
 have e2:(a:Int)*2 ^ s=((a*2 ^ s:Nat):Int):=by simp
 simp only [pC]
 rw [if_neg ae,e,e2,wrap32]
 congr 3
 have:4294967296=2 ^ (32-s)*2 ^ s:=by rw [<-lM,show 32-s+s=32 by omega]
 rw [this,at0]
theorem aFU (hc:c<2 ^ s) (h:x*2 ^ s+c<4294967296):dL .or .u32 (c:Nat) ((x*2 ^ s:Nat):Int)=some (.int .u32 ((x*2 ^ s+c:Nat):Int)):=by
 have e:(tI IntKind.u32.bits (c:Int) ||| tI IntKind.u32.bits ((x*2 ^ s:Nat):Int)).toNat=x*2 ^ s+c:=by
  rw [aaP,aaP,alM,aaL,aaL]
  have e1:x*2 ^ s % 2 ^ IntKind.u32.bits=x*2 ^ s:=iF (by show _<4294967296;omega)
  have e2:c % 2 ^ IntKind.u32.bits=c:=iF (by show _<4294967296;omega)
  rw [e1,e2,arp]
  have:=akZ (i:=s) (b:=c) hc x
  rw [alo] at this
  exact this.symm
 simp only [dL,e]
 rw [IntWalk.u32_in _ ae]
theorem amY {s y z:Nat} (hs:s<=32) (hy:y<4294967296):y/2 ^ s<2 ^ (32-s)/\z % 2 ^ s*2 ^ (32-s)+y/2 ^ s<4294967296:=by
 have hd:4294967296=2 ^ (32-s)*2 ^ s:=by rw [<-lM,show 32-s+s=32 by omega]
 have hp:0<2 ^ s:=lY ae
 have h1:y/2 ^ s<2 ^ (32-s):=by rw [nP hp];omega
 refine⟨h1,?_⟩
 have h2:=Nat.mod_lt z hp
 have h3:(z % 2 ^ s+1)*2 ^ (32-s)<=2 ^ s*2 ^ (32-s):=fP _ h2
 rw [hY,ae8,fy (2 ^ s)] at h3
 omega
end
theorem aut:∀ {l:List Nat},val l=0->∀ p,l.getD p 0=0
 | [],_,p=>by simp
 | x :: xs,h,p=>by
   simp only [val] at h
   have h1:x=0:=by omega
   have h2:val xs=0:=by omega
   cases p with
   | zero=>simpa using h1
   | succ p=>simpa using aut h2 p
theorem aCu {l:List Nat} {n:Nat} (hn:n=l.length):∀ p,jt n l<=p->l.getD p 0=0:=fun p hp=>by
 subst hn
 have h1:=(aiC l.length l (bp _)).2
 rw [nn] at h1
 have h2:=tL l (jt l.length l) (ak2 _ _)
 rw [h1] at h2
 have h3:val (l.drop (jt l.length l))=0:=by
  rcases ahy (val (l.drop (jt l.length l))) with e | e
  ·exact e
  ·have:=nt (uB (jt l.length l)) e;omega
 have h4:=aut h3 (p-jt l.length l)
 rwa [afA,show jt l.length l+(p-jt l.length l)=p by omega] at h4
theorem aqp {l:List Nat} {r s:Nat} (hs:s<=32) (h:val l=r*2 ^ s):l.getD 0 0 % 2 ^ s=0:=by
 cases l with
 | nil=>simp
 | cons x xs =>
  simp only [val] at h
  have hd:4294967296=2 ^ (32-s)*2 ^ s:=by rw [<-lM,show 32-s+s=32 by omega]
  have h1:(x+4294967296*val xs) % 2 ^ s=0:=by rw [h,Nat.mul_mod_left]
  rw [hd,axQ,Nat.add_mul_mod_self_right] at h1
  simpa using h1
theorem t0:(0:Int).toNat=0:=rfl
theorem aBR {x:Nat} (h:x<4294967296):bX [x]:=fun y hy=>by simp at hy;omega
def abQ:List Nat->Code->Option Code
 | [],c=>some c
 | i :: p,.seq x y=>if i=0 then abQ p x else abQ p y
 | i :: p,.cond _ x y=>if i=0 then abQ p x else abQ p y
 | _ :: p,.block _ c=>abQ p c
 | _ :: p,.loop c=>abQ p c
 | _,_=>none
def abF (fn:Func) (p:List Nat):Option Code:=fn.body.bind (abQ p)
section
variable {P:Program} {Q:jW->St->Prop} {L L':St}
theorem aeH {fn:Func} {p:List Nat} {c:Code} (h:abF fn p=some c) (k:cP P c Q L):cP P ((abF fn p).getD .skip) Q L:=by rw [h];exact k
end
theorem aeP {P:Program} {Q:jW->St->Prop} {L:St} {c:Code} {S:St->St} (h:S L=L) (k:cP P c Q (S L)):cP P c Q L:=by rw [<-h];exact k
theorem ab6 {Q:jW->St->Prop} {S L:St} (k:Q .normal S) (h:S=L):Q .normal L:=h ▸ k
end Go.Lg
namespace Go.Lg
theorem hce:(∀ (p:Prop) [Decidable p],(decide p=true)=p)/\(∀ (p:Prop) [Decidable p],(decide p=false)=¬ p)/\(∀ {α:Type} [BEq α] [LawfulBEq α] {a b:α},((a==b)=true)=(a=b))
  /\ (∀ {α:Type} [BEq α] [LawfulBEq α] {a b:α},((a==b)=false)=¬ (a=b))/\(∀ {α:Type} [BEq α] [LawfulBEq α] {a b:α},((a != b)=true)=¬ (a=b))/\(∀ {α:Type} [BEq α] [LawfulBEq α] {a b:α},((a != b)=false)=(a=b))
  /\ (∀ (b:Bool),(¬ (b=true))=(b=false))/\(∀ (b:Bool),((!b)=true)=(b=false))/\(∀ (b:Bool),((!b)=false)=(b=true))/\(∀ (a b:Bool),(a=!b)=¬ (a=b))/\(!true)=false/\(!false)=true :=
 ⟨fun _=>by simp,fun _=>by simp,by intros;simp,by intros;simp,by intros;simp,by intros;simp,by simp,by simp,by simp,fun a b=>by cases a<;>cases b<;>simp,rfl,rfl⟩
theorem tm0 {p:Prop} (h:p:=by first | exact acQ rfl | exact acQ (zf _) | exact acQ (kf _) | exact acQ (ar.pure _) | exact acQ (cg.pure _) | exact acQ (fh ar _ _) | exact ki (zf _) rfl | exact ki (kf _) rfl | exact ki (ar.pure _) rfl | exact ki (kf _) (kf _) | exact ahW (kf _) (kf _) rfl | exact ki rfl rfl | exact ahW rfl rfl rfl | exact ki (fh ar _ _) (fh ar _ _) | exact ki (fh ar _ _) rfl):p:=h
theorem imZ {H:bW}:cV H (.agg [.v (.bool false),.list 1 [],.list 1 []]) (ah 0):=qi ▸ .pure (ar.pure 0)
theorem fF {p:Prop} (h:p:=by first | exact .pure rfl | exact .pure (fh fZ _ _) | exact .pure (kf _) | exact .pure (ar.pure _) | exact .pure (cg.pure _) | exact imZ | exact .pure (fh ar _ _) | exact .pure (zf _) | exact .nil _ | exact .pure (fh oS _ _) | exact .pure (fh cg _ _) | exact .pure (bo.pure ⟨_,_,_⟩) | exact .pure (bH.pure _) | exact .pure (fh bo _ _) | exact .pure (fh bH _ _) | exact .pure (by assumption) | exact .pure pu):p:=h
theorem im1 {p:Prop} (h:p:=by first | exact .pure rfl | exact .pure (fh fZ _ _) | exact .pure (kf _) | exact .pure (ar.pure _) | exact .pure (cg.pure _) | exact .pure (fh ar _ _) | exact .pure (zf _) | exact .nil _ | exact .pure (fh oS _ _) | exact .pure (fh cg _ _) | exact .pure (by assumption) | exact fC fZ rfl rfl (by first | rfl | omega | exact(adi _ _).symm | (simp;done) | (simp;omega)) | exact fC ar rfl rfl (by first | rfl | omega | exact(adi _ _).symm | (simp;done) | (simp;omega)) | exact axr fZ rfl rfl (by first | omega | (simp;omega)) | exact axr ar rfl rfl (by first | omega | (simp;omega))):p:=h
theorem nt0 {p:Prop} (h:p:=by first | (simp;done) | exact(fun m h=>LV.noConfusion h) | exact LV.eP (kf _) | exact LV.eP (ar.pure _) | exact LV.eP (cg.pure _) | exact LV.eP (zf _) | exact LV.eP (fh ar _ _) | exact LV.eP (by assumption)):p:=h
theorem mE {p:Prop} (h:p:=by first | exact⟨(fun h=>by cases h),(fun _ h=>by cases h)⟩ | exact⟨LV.fk (ar.pure _),LV.eP (ar.pure _)⟩ | exact⟨LV.fk (cg.pure _),LV.eP (cg.pure _)⟩ | exact⟨LV.fk (bo.pure _),LV.eP (bo.pure _)⟩ | exact⟨LV.fk (bH.pure _),LV.eP (bH.pure _)⟩ | exact⟨LV.fk (by assumption),LV.eP (by assumption)⟩):p:=h
theorem aF0 {a s:Nat} (hs:s<=32):pC .shl .u32 (a:Nat) (32-(s:Int))=some (.int .u32 ((a % 2 ^ s*2 ^ (32-s):Nat):Int)):=by
 have:=ayC (a:=a) (s:=32-s) ae
 rw [show 32-(32-s)=s by omega] at this
 rwa [show (32:Int)-(s:Int)=((32-s:Nat):Int) by omega]
end Go.Lg
namespace Go.Lg
def me (s:Bool) (n:Nat):Int:=bif s then -(n:Int) else n
theorem aFY (s:Bool):me s 0=0:=by cases s<;>rfl
theorem ah7 (s:Bool) (n:Nat):(me s n).natAbs=n:=by cases s<;>simp [me]
theorem ayh (q:Rat):me (decide (q<0)) q.num.natAbs=q.num:=by
 have h:(q<0)↔q.num<0:=by rw [<-aw9,<-au1];omega
 by_cases hq:q<0
 ·have:=h.1 hq;simp only [hq,decide_true,me,cond_true];omega
 ·have h2:¬ q.num<0:=fun x=>hq (h.2 x)
  simp only [hq,decide_false,me,cond_false];omega
theorem agy (q:Rat):(q<0)↔q.num<0:=by rw [<-aw9,<-au1];omega
def qv (s:Bool) (n d:Nat):Rat:=mkRat (me s n) d
theorem anz (s:Bool) {n d:Nat} (hn:0<n) (hd:0<d):(qv s n d).num.natAbs=n/n.gcd d:=by
 rw [qv,avV,if_neg ae,ah7,qL]
 have h:((n.gcd d:Nat):Int) ∣ me s n:=by
  cases s
  ·exact al7.2 (aa1 _ _)
  ·exact(Int.dvd_neg.2 (al7.2 (aa1 _ _)))
 rw [Int.natAbs_ediv_of_dvd h,ah7]
 simp
theorem arE (s:Bool) (n:Nat) {d:Nat} (hd:0<d):(qv s n d).den=d/n.gcd d:=by
 rw [qv,Rat.den_mkRat,if_neg ae,ah7,qL]
theorem aCn (s:Bool) {n d:Nat} (hn:0<n) (hd:0<d):decide (qv s n d<0)=s:=by
 have h1:(qv s n d).num=me s n/(n.gcd d:Nat):=by rw [qv,avV,if_neg ae,ah7,qL]
 have hg:0<n.gcd d:=Nat.gcd_pos_of_pos_left _ hn
 have h2:=anz s hn hd
 have h3:n/n.gcd d≠0:=by
  have:=Nat.div_pos (Nat.le_of_dvd hn (aa1 n d)) hg;omega
 cases s
 ·have:0<=(qv false n d).num:=by rw [h1];exact ass (by simp [me]) ae
  simp only [decide_eq_false_iff_not];rw [agy];omega
 ·have:(qv true n d).num<=0:=by
   rw [h1];simp only [me,cond_true]
   have iE:((n.gcd d:Nat):Int) ∣ (n:Int):=al7.2 (aa1 _ _)
   rw [Int.neg_ediv_of_dvd iE]
   have:=ass (a:=(n:Int)) (b:=(n.gcd d:Nat)) ae ae
   omega
  simp only [decide_eq_true_eq];rw [agy];omega
theorem afP (s:Bool) (d:Nat):qv s 0 d=0:=by rw [qv,aFY,Rat.zero_mkRat]
theorem alL (s:Bool) (n:Nat):qv s n 0=0:=by rw [qv];simp
theorem mK (q:Rat):qv (decide (q<0)) q.num.natAbs q.den=q:=by rw [qv,ayh,atO]
def wz (s:Bool) (q:Rat):Rat:=qv s q.num.natAbs q.den
theorem aiN (q:Rat):wz (decide (q<0)) q=q:=mK q
theorem aAt (s:Bool) (n:Nat):me (!s) n=- me s n:=by cases s<;>simp [me]
theorem aE5 (q:Rat):wz (!decide (q<0)) q=-q:=by
 rw [wz,qv,aAt,<-aoy,ayh,atO]
theorem aju (s t:Bool) (n d m e:Nat):qv s n d*qv t m e=qv (s != t) (n*m) (d*e):=by
 simp only [qv,Rat.mkRat_mul_mkRat]
 congr 1
 cases s<;>cases t<;>simp [me,Int.mul_neg,ahO]
theorem axV (s:Bool) {n d m e:Nat} (hd:0<d) (he:0<e):qv s n d+qv s m e=qv s (n*e+m*d) (d*e):=by
 simp only [qv];rw [ali _ _ ae ae]
 congr 1
 cases s<;>simp [me,ahO]<;>omega
theorem ar3 (s t:Bool) {n d m e:Nat} (hd:0<d) (he:0<e) (dC:s≠t) (h:m*d<=n*e):qv s n d+qv t m e=qv s (n*e-m*d) (d*e):=by
 simp only [qv];rw [ali _ _ ae ae]
 congr 1
 cases s<;>cases t<;>simp_all [me,ahO]<;>omega
theorem avP (s t:Bool) {n d m e:Nat} (hd:0<d) (he:0<e) (dC:s≠t) (h:n*e<=m*d):qv s n d+qv t m e=qv t (m*d-n*e) (d*e):=by
 simp only [qv];rw [ali _ _ ae ae]
 congr 1
 cases s<;>cases t<;>simp_all [me,ahO]<;>omega
theorem aCx (x:Rat):(-x)⁻¹=-x⁻¹:=by grind
theorem aF2 (s:Bool) (n d:Nat):(qv s n d)⁻¹=qv s d n:=by
 have h0:(qv false n d)⁻¹=qv false d n:=by
  simp only [qv,Rat.mkRat_eq_div,me,cond_false]
  rw [jo,Rat.inv_mul_rev,Rat.inv_inv,jo]
  rfl
 cases s
 ·exact h0
 ·have e:∀ n d:Nat,qv true n d=- qv false n d:=fun n d=>by simp only [qv,me,cond_true,cond_false,aoy]
  rw [e,e,aCx,h0]
theorem aht (s t:Bool) (n d m e:Nat):qv s n d/qv t m e=qv (s != t) (n*e) (d*m):=by
 rw [jo,aF2,aju]
theorem anb (s:Bool) {n d k:Nat} (hk:0<k):qv s (n*k) (d*k)=qv s n d:=by
 by_cases hd:d=0
 ·subst hd;simp [alL]
 simp only [qv]
 rw [Rat.mkRat_eq_iff (by have:=nt (vc hd) hk;omega) hd]
 cases s<;>simp [me]<;>grind
theorem wT (q:Rat):jH q=if q.den=1 then 0 else q.den:=rfl
def rl (q:Rat):Nat:=max (aq q.num.natAbs).length (aq q.den).length
theorem mr (q:Rat):(aq q.num.natAbs).length<=rl q:=atb _ _
theorem oc (q:Rat):(aq q.den).length<=rl q:=al6 _ _
theorem nB (q:Rat):(aq (jH q)).length<=rl q:=by
 rw [wT];split
 ·simp [wb]
 ·exact oc q
theorem aIM {q:Rat} {k:Nat} (hn:q.num.natAbs<4294967296 ^ k) (hd:q.den<4294967296 ^ k):rl q<=k :=
 Nat.max_le.2 ⟨xw hn,xw hd⟩
theorem ac9 (q:Rat):q.num.natAbs<4294967296 ^ rl q/\q.den<4294967296 ^ rl q:=⟨uK (mr q),uK (oc q)⟩
theorem arV (q:Rat):1<=rl q:=by
 have:=oc q
 have h:aq q.den≠[]:=fun h=>q.den_nz (sM.1 h)
 have:=List.length_pos_iff.2 h
 omega
theorem ab7 (s:Bool) {n d k:Nat} (hn:n<4294967296 ^ k) (hd:d<4294967296 ^ k):rl (qv s n d)<=max k 1:=by
 by_cases jD:d=0
 ·subst jD;rw [alL];exact a9 (adG (by rfl)) (al6 _ _)
 by_cases jb:n=0
 ·subst jb;rw [afP];exact a9 (adG (by rfl)) (al6 _ _)
 refine a9 (aIM (k:=k) ?_ ?_) (atb _ _)
 ·rw [anz s ae ae];exact ug (vf _ _) hn
 ·rw [arE s n ae];exact ug (vf _ _) hd
theorem aiG (q:Rat):rl (-q)=rl q:=by simp [rl]
theorem aax {x y a b:Nat} (hx:x<4294967296 ^ a) (hy:y<4294967296 ^ b):x*y<4294967296 ^ (a+b):=by
 rw [lM];exact Nat.mul_lt_mul'' hx hy
theorem cX (a b:Rat):rl (a*b)<=rl a+rl b:=by
 have ha:=ac9 a
 have hb:=ac9 b
 have:=ab7 (decide (a<0) != decide (b<0)) (aax ha.1 hb.1) (aax ha.2 hb.2)
 rw [<-aju,mK,mK] at this
 have:=arV a
 omega
theorem rG (a b:Rat):rl (a/b)<=rl a+rl b:=by
 have ha:=ac9 a
 have hb:=ac9 b
 have:=ab7 (decide (a<0) != decide (b<0)) (aax ha.1 hb.2) (aax ha.2 hb.1)
 rw [<-aht,mK,mK] at this
 have:=arV a
 omega
theorem aoI {x y k:Nat} (hx:x<4294967296 ^ k) (hy:y<4294967296 ^ k):x+y<4294967296 ^ (k+1):=by
 rw [jg];omega
theorem kC (a b:Rat):rl (a+b)<=rl a+rl b+1:=by
 have ha:=ac9 a
 have hb:=ac9 b
 have hd:=aax ha.2 hb.2
 have iE:a.den*b.den<4294967296 ^ (rl a+rl b+1):=aoc hd (Nat.pow_lt_pow_right ae ae)
 have h1:=aax ha.1 hb.2
 have h2:=aax ha.2 hb.1
 have hs:=aoI h1 h2
 have key:∀ n,n<=a.num.natAbs*b.den+a.den*b.num.natAbs->∀ s,a+b=qv s n (a.den*b.den)->rl (a+b)<=rl a+rl b+1:=by
  intro n hn s e
  rw [e]
  have:=ab7 s (ug hn hs) iE
  omega
 rw [fy a.den b.num.natAbs] at key
 by_cases dC:decide (a<0)=decide (b<0)
 ·refine key _ (bp _) (decide (a<0)) ?_
  have:=axV (decide (a<0)) (n:=a.num.natAbs) (m:=b.num.natAbs) a.den_pos b.den_pos
  rw [<-this,mK,dC,mK]
 ·rcases Nat.le_total (b.num.natAbs*a.den) (a.num.natAbs*b.den) with h | h
  ·refine key (a.num.natAbs*b.den-b.num.natAbs*a.den) ae (decide (a<0)) ?_
   have:=ar3 _ _ a.den_pos b.den_pos dC h
   rw [<-this,mK,mK]
  ·refine key (b.num.natAbs*a.den-a.num.natAbs*b.den) ae (decide (b<0)) ?_
   have:=avP _ _ a.den_pos b.den_pos dC h
   rw [<-this,mK,mK]
theorem jm (a b:Rat):rl (a-b)<=rl a+rl b+1:=by
 have:=kC a (-b)
 rw [aiG] at this
 rwa [Rat.sub_eq_add_neg]
theorem aeB (s:Bool) {n d:Nat} (hn:0<n) (hd:0<d):ah (qv s n d)=.agg [.v (.bool s),bl (n/n.gcd d),bl (if d/n.gcd d=1 then 0 else d/n.gcd d)]:=by
 rw [vW,aCn s hn hd,anz s hn hd,wT,arE s n hd]
def gj (a b:Rat):Int:=if a<b then -1 else if b<a then 1 else 0
section
variable {P:Program} {H:bW} {ρ:Operand->LV} {T:TypeId} {p x:Operand} {b i d sz:Nat} {q:Rat} {vals:List LV} {m ag:Bool} {α:Type} {e:α->LV} {a:α}
theorem aE.aHH (hp:ρ p=.aB b 3 i 0) (hb:H b=some ⟨3,vals,m⟩) (hi:vals[i]?=some (ah q)) (hT:bC P T 1 false):aE P H ρ (.load T p) (.v (.bool (decide (q<0)))):=.fU hp hb rfl hi (ar.aw _) (azD q) hT
theorem aE.aGQ (hp:ρ p=.aB b 3 i 1) (hb:H b=some ⟨3,vals,m⟩) (hi:vals[i]?=some (ah q)) (hT:bC P T 1 false):aE P H ρ (.load T p) (bl q.num.natAbs):=.fU hp hb rfl hi (ar.aw _) (aEH q) hT
theorem aE.aGr (hp:ρ p=.aB b 3 i 2) (hb:H b=some ⟨3,vals,m⟩) (hi:vals[i]?=some (ah q)) (hT:bC P T 1 false):aE P H ρ (.load T p) (bl (jH q)):=.fU hp hb rfl hi (ar.aw _) (aFh q) hT
theorem aE.aFQ (hp:ρ p=.aB b 3 i 0) (hb:H b=some ⟨3,vals,m⟩) (hi:vals[i]?=some (ah q)) (hT:bC P T 3 true):aE P H ρ (.load T p) (ah q):=.fU hp hb rfl hi (ar.aw _) (qm q) hT
theorem dA.adY (he:iJ e sz ag) (hx:ρ x=e a):dA P ρ d (.box T x) (.aB d sz 0 0) ⟨sz,[e a],true⟩:=by
 have h:=dA.box (P:=P) (ρ:=ρ) (d:=d) (T:=T) (x:=x) (by rw [hx];exact⟨fun h=>by have:=he.pure a;rw [h] at this;simp [LV.pure] at this,LV.eP (he.pure a)⟩)
 rwa [hx,he.aw] at h
theorem dA.aI8 (he:iJ e sz ag) (hz:dj P T (e a)):dA P ρ d (.alloc T) (.aB d sz 0 0) ⟨sz,[e a],true⟩:=by
 have h:=dA.alloc (ρ:=ρ) (d:=d) hz
 rwa [he.aw] at h
end
section
variable {P:Program} {L:St} {dst:Option Nat} {T:TypeId} {p x:Operand} {b:Nat} {q:Rat} {zs:List LV}
theorem gO.aBp (hp:L.ev p=.aB b 3 0 0) (hb:L.heap b=some ⟨3,[.agg zs],true⟩) (hz:cU zs=3) (hx:L.ev x=ah q) (hT:bC P T 3 true) :
  gO P L dst (.store T p x) ((L.bO b (some ⟨3,[ah q],true⟩)).put dst .any):=by
 have h:=gO.store (P:=P) (dst:=dst) (T:=T) (p:=p) (x:=x) (y:=.agg zs) (y':=ah q) hp hb rfl rfl rfl (by simp [LV.aw,hz])
  (by rw [hx];simp [LV.put,hz,ar.aw,ar.isAgg]) (by rw [hx,ar.aw,ar.isAgg];exact hT)
  (by rw [hx];exact⟨fun h=>by have:=ar.pure q;rw [h] at this;simp [LV.pure] at this,LV.eP (ar.pure q)⟩)
 exact h
end
section
variable {P:Program} {H:bW} {ρ:Operand->LV} {T:TypeId} {p x y:Operand} {b i d sz:Nat} {s:Rat × Rat} {vals:List LV} {m ag:Bool} {q r:Rat}
theorem aE.aD9 (hp:ρ p=.aB b 6 i 0) (hb:H b=some ⟨6,vals,m⟩) (hi:vals[i]?=some (aH s)) (hT:bC P T 3 true):aE P H ρ (.load T p) (ah s.1):=.fU hp hb rfl hi (cg.aw _) (apY s) hT
theorem aE.aBS (hp:ρ p=.aB b 6 i 3) (hb:H b=some ⟨6,vals,m⟩) (hi:vals[i]?=some (aH s)) (hT:bC P T 3 true):aE P H ρ (.load T p) (ah s.2):=.fU hp hb rfl hi (cg.aw _) (auj s) hT
theorem aE.aHR (hp:ρ p=.aB b 6 i 0) (hb:H b=some ⟨6,vals,m⟩) (hi:vals[i]?=some (aH s)) (hT:bC P T 6 true):aE P H ρ (.load T p) (aH s):=.fU hp hb rfl hi (cg.aw _) (aaD s) hT
theorem aE.axa (hT:lS P T [(3,true),(3,true)]) (hz:dj P T (.agg [ah 0,ah 0])) (hx:ρ x=ah q) (hy:ρ y=ah r):aE P H ρ (.build T #[(0,x),(1,y)]) (aH (q,r)):=by
 have:=aE.build (P:=P) (H:=H) (ρ:=ρ) (T:=T) (ps:=#[(0,x),(1,y)]) (zs:=[ah 0,ah 0]) (by simpa [lay,ar.aw,ar.isAgg] using hT) hz (by
  simp only [List.forall_mem_cons]
  exact⟨⟨_,rfl,by simp [lay,hx,ar.aw,ar.isAgg],by rw [hx];exact⟨LV.fk (ar.pure _),LV.eP (ar.pure _)⟩⟩,⟨_,rfl,by simp [lay,hy,ar.aw,ar.isAgg],by rw [hy];exact⟨LV.fk (ar.pure _),LV.eP (ar.pure _)⟩⟩,fun _ h=>by cases h⟩)
 rw [yn]
 simpa [jR,hx,hy] using this
theorem gO.aH8 {L:St} {dst:Option Nat} {s0:Rat × Rat} (hp:L.ev p=.aB b 6 0 0) (hb:L.heap b=some ⟨6,[aH s0],true⟩) (hx:L.ev x=aH s) (hT:bC P T 6 true) :
  gO P L dst (.store T p x) ((L.bO b (some ⟨6,[aH s],true⟩)).put dst .any):=by
 have h0:LV.put (aH s0) 0 (L.ev x)=some (aH s):=by
  rw [hx,yn s0]
  simp [LV.put,cg.aw,cg.isAgg,cU,LV.aw,ar.aw]
 have h:=gO.store (P:=P) (dst:=dst) (T:=T) (p:=p) (x:=x) (y:=aH s0) (y':=aH s) hp hb rfl rfl rfl (cg.aw _) h0 (by rw [hx,cg.aw,cg.isAgg];exact hT)
  (by rw [hx];exact⟨LV.fk (cg.pure s),LV.eP (cg.pure s)⟩)
 exact h
end
theorem al5 {L:St} {α:Type} {e:α->LV} {ag:Bool} {bs:List Nat} {b sz off len:Nat} {l l':List α} {m:Bool} (he:iJ e sz ag) (hb:L.heap b=some ⟨sz,l.map e,m⟩) (rP:bs.contains b=true) (hl:off+len<=l.length) (h:(l.drop off).take len=l') :
  cV (L.b9 bs).heap (.ref b sz off len) (.list sz (l'.map e)):=by
 have:=afv (L:=L) (bs:=bs) (off:=off) (len:=len) hb rP (a7 he l) (by simpa using hl)
 rwa [<-List.map_drop,<-xg,h] at this
theorem aBA {n:Int} (h1:-9223372036854775808<n) (h2:n<=9223372036854775807):(if IntKind.i64.wrap (0-n) > n then IntKind.i64.wrap (0-n) else n)=((n.natAbs:Nat):Int):=by
 rw [IntWalk.i64_in _ ae];split<;>omega
theorem aeo (n:Int):qv (decide (n<0)) n.natAbs 1=(n:Rat):=by
 have:me (decide (n<0)) n.natAbs=n:=by
  by_cases h:n<0
  ·simp only [h,decide_true,me,cond_true];omega
  ·simp only [h,decide_false,me,cond_false];omega
 rw [qv,this,Rat.mkRat_one]
theorem ae7 (n d:Int):qv (decide (n<0) != decide (d<0)) n.natAbs d.natAbs=(n:Rat)/(d:Rat):=by
 rw [<-aeo n,<-aeo d,aht];simp
theorem aDm {q:Rat} (h:q.den<4294967296):(aq (jH q)).length<=1:=ua.2 (by rw [wT];split<;>omega)
theorem ajt {q:Rat} (h:0<(aq (jH q)).length):jH q=q.den:=by
 rw [wT] at h ⊢;split
 ·rename_i h1;rw [if_pos h1] at h;simp [wb] at h
 ·rfl
theorem an3 {q:Rat} (h:(aq (jH q)).length=0):q.den=1:=by
 have h0:=sM.1 (List.eq_nil_of_length_eq_zero h)
 rw [wT] at h0
 have:=q.den_pos
 split at h0
 ·assumption
 ·omega
def xU (q:Rat):Bool:=decide (q.num.natAbs<4294967296/\q.den<4294967296)
def pN (q:Rat):Nat:=if xU q then q.num.natAbs else 0
def pD (q:Rat):Nat:=if xU q then q.den else 0
def cT (a:Rat):Int:=if a=0 then 0 else if a<0 then -1 else 1
theorem axf (q:Rat):cT q=if q.num.natAbs=0 then 0 else if q<0 then -1 else 1:=by
 unfold cT
 by_cases h:q=0
 ·subst h;rfl
 ·have:¬ q.num.natAbs=0:=fun h2=>h (Rat.num_eq_zero.1 ae)
  rw [if_neg h,if_neg this]
def p9 (l:List Nat) (off n:Nat):List Nat:=if n<4294967296 then l.set off n else(l.set off (n % 4294967296)).set (off+1) (n/4294967296)
def mC (n:Nat):Nat:=if n<4294967296 then 1 else 2
theorem agr {n:Nat} (h0:0<n) (h:n<18446744073709551616):(n<4294967296/\mC n=1/\aq n=[n])\/(4294967296<=n/\mC n=2/\aq n=[n % 4294967296,n/4294967296]):=by
 by_cases hn:n<4294967296
 ·exact .inl ⟨hn,by simp [mC,hn],adh h0 hn⟩
 ·refine .inr ⟨ae,by simp [mC,hn],?_⟩
  rw [abb h0,adh ae ae]
theorem aD4 {n:Nat} (h0:0<n) (h:n<18446744073709551616):((p9 [0,0,0,0] 0 n).drop 0).take (mC n)=aq n:=by
 rcases agr h0 h with⟨h1,h2,h3⟩ | ⟨h1,h2,h3⟩
 ·rw [h2,h3];simp [p9,h1]
 ·rw [h2,h3];simp [p9,amJ.2 h1]
theorem aAI {n d:Nat} (h0:0<n) (h:n<18446744073709551616) (g0:0<d) (g:d<18446744073709551616) :
  ((p9 (p9 [0,0,0,0] 0 n) (mC n) d).drop 0).take (mC n)=aq n/\((p9 (p9 [0,0,0,0] 0 n) (mC n) d).drop (mC n)).take (mC d)=aq d:=by
 rcases agr h0 h with⟨h1,h2,h3⟩ | ⟨h1,h2,h3⟩<;>rcases agr g0 g with⟨g1,g2,g3⟩ | ⟨g1,g2,g3⟩<;>rw [h2,h3,g2,g3]<;>simp [p9, *,amJ.2]
theorem akk (l:List Nat) (off n:Nat):(p9 l off n).length=l.length:=by unfold p9;split<;>simp
section
variable {P:Program} {ρ:Operand->LV} {α:Type} {e:α->LV}
theorem dA.aCJ {T E:TypeId} {x y w:Operand} {d sz:Nat} {ag:Bool} {z a b c:α} (he:iJ e sz ag) (hT:P.underlying T=some (.slice E)) (hz:dj P E (e z)) (hE:bC P E sz ag) (hx:ρ x=e a) (hy:ρ y=e b) (hw:ρ w=e c) (dM:0<sz) (ku:sz<=1000) :
  dA P ρ d (.buildSlice T 3 #[(0,x),(1,y),(2,w)]) (.ref d sz 0 3) ⟨sz,[a,b,c].map e,true⟩:=by
 have aX:∀ v,ρ v=e a\/ρ v=e b\/ρ v=e c->lay (ρ v)=lay (e z)/\ρ v≠.any/\∀ m,ρ v≠.bf m:=by
  rintro v (h | h | h)<;>rw [h]<;>exact⟨by simp [lay,he.aw,he.isAgg],LV.fk (he.pure _),LV.eP (he.pure _)⟩
 have:=dA.lit (P:=P) (ρ:=ρ) (d:=d) (T:=T) (n:=3) (ps:=#[(0,x),(1,y),(2,w)]) hT hz (by rw [he.isAgg];exact hE) (he.aw z) ae ae dM (by
  intro p hp
  simp only [fu,jn,or_false] at hp
  rcases hp with rfl | rfl | rfl
  ·exact⟨by show 0<3;omega,aX x (.inl hx)⟩
  ·exact⟨by show 1<3;omega,aX y (.inr (.inl hy))⟩
  ·exact⟨by show 2<3;omega,aX w (.inr (.inr hw))⟩)
 simpa [jR,hx,hy,hw,ay] using this
theorem dA.asr {T E:TypeId} {x y w z':Operand} {d sz:Nat} {ag:Bool} {z a b c f:α} (he:iJ e sz ag) (hT:P.underlying T=some (.slice E)) (hz:dj P E (e z)) (hE:bC P E sz ag) (hx:ρ x=e a) (hy:ρ y=e b) (hw:ρ w=e c) (hf:ρ z'=e f) (dM:0<sz) (ku:sz<=1000) :
  dA P ρ d (.buildSlice T 4 #[(0,x),(1,y),(2,w),(3,z')]) (.ref d sz 0 4) ⟨sz,[a,b,c,f].map e,true⟩:=by
 have aX:∀ v,ρ v=e a\/ρ v=e b\/ρ v=e c\/ρ v=e f->lay (ρ v)=lay (e z)/\ρ v≠.any/\∀ m,ρ v≠.bf m:=by
  rintro v (h | h | h | h)<;>rw [h]<;>exact⟨by simp [lay,he.aw,he.isAgg],LV.fk (he.pure _),LV.eP (he.pure _)⟩
 have:=dA.lit (P:=P) (ρ:=ρ) (d:=d) (T:=T) (n:=4) (ps:=#[(0,x),(1,y),(2,w),(3,z')]) hT hz (by rw [he.isAgg];exact hE) (he.aw z) ae ae dM (by
  intro p hp
  simp only [fu,jn,or_false] at hp
  rcases hp with rfl | rfl | rfl | rfl
  ·exact⟨by show 0<4;omega,aX x (.inl hx)⟩
  ·exact⟨by show 1<4;omega,aX y (.inr (.inl hy))⟩
  ·exact⟨by show 2<4;omega,aX w (.inr (.inr (.inl hw)))⟩
  ·exact⟨by show 3<4;omega,aX z' (.inr (.inr (.inr hf)))⟩)
 simpa [jR,hx,hy,hw,hf,ay] using this
end
theorem kY {P:Program} {L L0:St} {c:Code} {Q:jW->St->Prop} (hw:az L L0) (h:cP P (.loop c) Q L0):cP P (.loop c) Q L:=by
 intro I hI
 obtain⟨L1,h1,h2⟩:=h I hI
 exact⟨L1,hw.trans h1,h2⟩
section
variable {P:Program} {ops:Array Oper} {D:Array Bool} {L:St} {K:St->Prop} {fuel:Nat}
theorem fx (hr:Region.ready .any ops D=[]) (k:K L):jl P ops fuel D L K:=by
 cases fuel with
 | zero=>exact⟨hr,k⟩
 | succ n=>exact⟨fun _=>k,fun i hi=>by rw [hr] at hi;cases hi⟩
theorem aZ (i:Nat) (o:Oper) (hr:Region.ready .any ops D=[i]) (ho:ops[i]?=some o) (h:opsL P false ops [o] L (fun L'=>jl P ops fuel (D.setIfInBounds i true) L' K)):jl P ops (fuel+1) D L K:=by
 refine⟨fun e=>(by rw [hr] at e;cases e),fun j hj=>?_⟩
 rw [hr,iM] at hj
 subst hj
 obtain⟨L',h1,h2⟩:=h
 exact⟨o,L',ho,h1,h2⟩
theorem jL (i j:Nat) (o o2:Oper) (hr:Region.ready .any ops D=[i,j]) (ho:ops[i]?=some o) (ho2:ops[j]?=some o2) (h:opsL P false ops [o] L (fun L'=>jl P ops fuel (D.setIfInBounds i true) L' K))
  (h2:opsL P false ops [o2] L (fun L'=>jl P ops fuel (D.setIfInBounds j true) L' K)):jl P ops (fuel+1) D L K:=by
 refine⟨fun e=>(by rw [hr] at e;cases e),fun x hx=>?_⟩
 rw [hr] at hx
 simp only [fu,jn,or_false] at hx
 rcases hx with rfl | rfl
 ·obtain⟨L',h1,h3⟩:=h
  exact⟨o,L',ho,h1,h3⟩
 ·obtain⟨L',h1,h3⟩:=h2
  exact⟨o2,L',ho2,h1,h3⟩
end
class UN (P:Program) (T:TypeId) (d:outParam TypeDesc):Prop where
 h:P.underlying T=some d
class TI (P:Program) (T:TypeId) (sz:outParam Nat) (ag:outParam Bool):Prop where
 h:bC P T sz ag
class SI (P:Program) (T:TypeId) (l:outParam (List (Nat × Bool))):Prop where
 h:lS P T l
class BI (P:Program) (T:TypeId) (n:outParam Nat):Prop where
 h:mg P T n
class ZI (P:Program) (T:TypeId) (z:outParam LV):Prop where
 h:dj P T z
class EC (P:Program) (T:TypeId) {α:outParam Type} (e:outParam (α->LV)) (sz:outParam Nat) (ag:outParam Bool) (z:outParam α):Prop where
 h:iJ e sz ag
 z:dj P T (e z)
 t:bC P T sz ag
class AE (P:Program) (T:TypeId) {α:outParam Type} (e:outParam (α->LV)) (sz:outParam Nat) (ag:outParam Bool) (z:outParam α):Prop where
 h:iJ e sz ag
 z:dj P T (e z)
theorem zHs {p:Prop} (h:p:=by first | (simp only [hce,l1,t0,t1,fW,ck];exact rfl) | exact rfl):p:=h
theorem agC {S:St->St} {L L1:St} (h:S L1=L):∃ L1,az L (S L1):=⟨L1,az.of_eq h⟩
def aE1:BinOp->Bool
 | .eql | .neq | .lss | .leq | .gtr | .geq=>true
 | _=>false
section
variable {P:Program} {H:bW} {ρ:Operand->LV} {α:Type} {e:α->LV} {sz:Nat} {ag:Bool} {z a:α} {T E:TypeId} {p x i:Operand} {L L0:St} {Q:jW->St->Prop} {K:St->Prop}
theorem aE.ldB [c:EC P T e sz ag z] (hp:ρ p=.cm (e a)):aE P H ρ (.load T p) (e a):=.ahD c.h hp c.t
theorem aE.ldE [Inhabited α] [c:EC P T e sz ag z] {b i:Nat} {l:List α} {m:Bool} (hp:ρ p=.aB b sz i 0) (hb:H b=some ⟨sz,l.map e,m⟩) (hi:i<l.length):aE P H ρ (.load T p) (e (l.getD i default)):=.as9 c.h hp hb c.t hi
theorem aE.ixL [Inhabited α] [u:UN P T (.slice E)] [c:EC P E e sz ag z] {l:List α} {k:IntKind} {n:Int} (hx:ρ x=.list sz (l.map e)) (hi:ρ i=.v (.int k n)) (h0:0<=n) (hn:n<l.length) :
  aE P H ρ (.indexAddr T x i) (.cm (e (l.getD n.toNat default))):=.amb c.h hx u.h c.t hi h0 hn
theorem aE.ixR [u:UN P T (.slice E)] [c:TI P E sz ag] {b off len:Nat} {k:IntKind} {n:Int} (hx:ρ x=.ref b sz off len) (hi:ρ i=.v (.int k n)) (h0:0<=n) (hn:n<len) :
  aE P H ρ (.indexAddr T x i) (.aB b sz (off+n.toNat) 0):=.wD hx u.h c.h hi h0 hn
theorem aE.cmp {op:BinOp} {U:TypeId} {y:Operand} {k:IntKind} {a b:Int} {r:Value} (hc:aE1 op=true) (hx:ρ x=.v (.int k a)) (hy:ρ y=.v (.int k b)) (h:dL op k a b=some r):aE P H ρ (.binOp op T x y U) (.v r):=.bin hx hy h
theorem gO.stE [Inhabited α] [c:EC P T e sz ag z] {dst:Option Tmp} {b i:Nat} {l:List α} (hp:L.ev p=.aB b sz i 0) (hb:L.heap b=some ⟨sz,l.map e,true⟩) (hx:L.ev x=e a) (hi:i<l.length) :
  gO P L dst (.store T p x) ((L.bO b (some ⟨sz,(l.set i a).map e,true⟩)).put dst .any):=.azh c.h hp hb hx c.t hi
theorem dA.mw {dN:Nat} [u:UN P T (.slice E)] [c:EC P E e sz ag z] [b:BI P E dN] {d n m:Nat} {kl kc:IntKind} (hl:ρ x=.v (.int kl (n:Nat))) (hc:ρ i=.v (.int kc (m:Nat))) (kh:n<=m) (hm:dN*m<=281474976710656) (eO:m<=9223372036854775807) :
  dA P ρ d (.makeSlice T x i) (.ref d sz 0 n) ⟨sz,(ay n z).map e,true⟩:=.an6 c.h u.h c.z c.t b.h hl hc kh hm eO
theorem dA.zp [c:EC P T e sz ag z] {d:Nat} (hx:ρ x=e a):dA P ρ d (.box T x) (.aB d sz 0 0) ⟨sz,[e a],true⟩:=.adY c.h hx
theorem aF {c:Operand} {x y:Code} {t:Bool} {u v:Prop} (hc:L.ev c=.v (.bool t)) (h1:t=true->u->cP P x Q L) (h2:t=false->v->cP P y Q L)
  (e1:(t=true)=u:=by exact zHs) (e2:(t=false)=v:=by exact zHs):cP P (.cond c x y) Q L:=ald hc (fun h=>h1 h (e1 ▸ h)) (fun h=>h2 h (e2 ▸ h))
theorem dA.alE [c:AE P T e sz ag z] {d:Nat}:dA P ρ d (.alloc T) (.aB d sz 0 0) ⟨sz,[e z],true⟩:=.aI8 c.h c.z
theorem dA.l0 [u:UN P T (.slice E)] [t:TI P E sz ag] {d:Nat}:dA P ρ d (.buildSlice T 0 #[]) (.ref d sz 0 0) ⟨sz,[],true⟩:=.ain u.h t.h
theorem dA.l1 [u:UN P T (.slice E)] [c:EC P E e sz ag z] {d:Nat} {x0:Operand} {a0:α} (h0:ρ x0=e a0) (dM:0<sz:=by decide) (ku:sz<=1000:=by decide):dA P ρ d (.buildSlice T 1 #[(0,x0)]) (.ref d sz 0 1) ⟨sz,[a0].map e,true⟩:=.anB c.h u.h c.z c.t h0 dM ku
theorem dA.l2 [u:UN P T (.slice E)] [c:EC P E e sz ag z] {d:Nat} {x0 x1:Operand} {a0 a1:α} (h0:ρ x0=e a0) (h1:ρ x1=e a1) (dM:0<sz:=by decide) (ku:sz<=1000:=by decide):dA P ρ d (.buildSlice T 2 #[(0,x0),(1,x1)]) (.ref d sz 0 2) ⟨sz,[a0,a1].map e,true⟩:=.au8 c.h u.h c.z c.t h0 h1 dM ku
theorem dA.l3 [u:UN P T (.slice E)] [c:EC P E e sz ag z] {d:Nat} {x0 x1 x2:Operand} {a0 a1 a2:α} (h0:ρ x0=e a0) (h1:ρ x1=e a1) (h2:ρ x2=e a2) (dM:0<sz:=by decide) (ku:sz<=1000:=by decide):dA P ρ d (.buildSlice T 3 #[(0,x0),(1,x1),(2,x2)]) (.ref d sz 0 3) ⟨sz,[a0,a1,a2].map e,true⟩:=.aCJ c.h u.h c.z c.t h0 h1 h2 dM ku
theorem dA.l4 [u:UN P T (.slice E)] [c:EC P E e sz ag z] {d:Nat} {x0 x1 x2 x3:Operand} {a0 a1 a2 a3:α} (h0:ρ x0=e a0) (h1:ρ x1=e a1) (h2:ρ x2=e a2) (h3:ρ x3=e a3) (dM:0<sz:=by decide) (ku:sz<=1000:=by decide):dA P ρ d (.buildSlice T 4 #[(0,x0),(1,x1),(2,x2),(3,x3)]) (.ref d sz 0 4) ⟨sz,[a0,a1,a2,a3].map e,true⟩:=.asr c.h u.h c.z c.t h0 h1 h2 h3 dM ku
theorem dg {dr:Bool} {ops:Array Oper} {l:List Oper} (d:Nat) {b:Bool} {u v:Prop} (h:L.slot d=.v (.bool b)) (ht:b=true->u->opsL P dr ops l L K) (hf:b=false->v->opsL P dr ops l L K)
  (e1:(b=true)=u:=by exact zHs) (e2:(b=false)=v:=by exact zHs):opsL P dr ops l L K:=aH2 h (fun h=>ht h (e1 ▸ h)) (fun h=>hf h (e2 ▸ h))
theorem aE.bd {zs:List LV} {l:List (Nat × Bool)} {ps:Array (Nat × Operand)} [z:ZI P T (.agg zs)] [s:SI P T l] (h:zs.map lay=l) (hp:∀ p∈ps.toList,∃ z,zs[p.1]?=some z/\lay (ρ p.2)=lay z/\ρ p.2≠.any/\∀ m,ρ p.2≠.bf m) :
  aE P H ρ (.build T ps) (.agg (jR zs (ps.toList.map fun p=>(p.1,ρ p.2)))):=.build (h ▸ s.h) z.h hp
end
namespace H0
theorem aM {p q:Prop} (k:q) (e:p=q:=by simp only [e1,e2,e3,e4,p1,p2,p3,q1,q2,q3,l1,t0,t1,r1,r2,r3,r4,Nat.zero_add,Nat.reduceMul,Nat.reduceAdd,b1,b2,b3,b4,b5,b6,i1,i2,i3,i4,i5,i6,Nat.reduceBEq];exact rfl):p:=e.mpr k
end H0
theorem oo {p:Prop} (h:p:=by omega):p:=h
theorem om {p:Prop} (h:p:=by first | (refine aM ?_;omega) | omega):p:=h
theorem nf {p:Prop} (h:p:=by first | (refine aM ?_;exact rfl) | exact rfl):p:=h
theorem cl {p:Prop} (h:p:=by first | rfl | (refine aM ?_;first | exact trivial | rfl | (congr 3<;>omega) | (congr 2<;>omega))):p:=h
theorem ml {p:Prop} (h:p:=by first | rfl | (refine aM ?_;first | exact trivial | rfl | (congr 2<;>omega))):p:=h
theorem nt1:(!true)=false:=rfl
theorem nt2:(!false)=true:=rfl
theorem vg {p:Prop} (h:p:=by first | assumption | with_reducible rfl | with_reducible exact nt1 | with_reducible exact nt2):p:=h
theorem gd {p:Prop} (h:p:=by first | exact rfl | exact bg (v:=true) rfl rfl vg rfl | exact bg (v:=false) rfl rfl vg rfl):p:=h
theorem nes {p:Prop} (h:p:=by first | (intro p hp;cases hp;done) | (simp only [List.forall_mem_cons];first | exact⟨⟨_,rfl,rfl,mE⟩,fun _ h=>by cases h⟩ | exact⟨⟨_,rfl,rfl,mE⟩,⟨_,rfl,rfl,mE⟩,fun _ h=>by cases h⟩ | exact⟨⟨_,rfl,rfl,mE⟩,⟨_,rfl,rfl,mE⟩,⟨_,rfl,rfl,mE⟩,fun _ h=>by cases h⟩ | exact⟨⟨_,rfl,rfl,mE⟩,⟨_,rfl,rfl,mE⟩,⟨_,rfl,rfl,mE⟩,⟨_,rfl,rfl,mE⟩,fun _ h=>by cases h⟩)):p:=h
theorem aQ {p:Prop} (h:p:=by exact .cons fF .nil):p:=h
theorem au {p:Prop} (h:p:=by exact .cons fF (.cons fF .nil)):p:=h
theorem gV {p:Prop} (h:p:=by exact .cons fF (.cons fF (.cons fF .nil))):p:=h
theorem am5 {p:Prop} (h:p:=by exact .cons fF (.cons fF (.cons fF (.cons fF (.cons fF .nil))))):p:=h
theorem am0 {p:Prop} (h:p:=by exact .nil):p:=h
theorem sR {p:Prop} (h:p:=by exact .cons im1 .nil):p:=h
section
variable {P:Program} {dr:Bool} {ops:Array Oper} {rest:List Oper} {L:St} {K:St->Prop} {dst:Option Tmp} {ty:TypeId} {pos:String} {af:Array Edge} {g:Option (Nat × Bool)}
theorem cp {f:FuncId} {xs:Array Operand} {as:Array TypeId} {args:List LV} {r:LV} (ha:fT L.heap (xs.toList.map L.ev) args) (hk:ax P f args r) (k:opsL P dr ops rest (L.put dst r) K)
  (hg:dY ops L ⟨dst,.call ⟨.value (.func f),xs,as⟩,ty,pos,af,g⟩ true:=by exact gd):opsL P dr ops (⟨dst,.call ⟨.value (.func f),xs,as⟩,ty,pos,af,g⟩ :: rest) L K:=iP hg ha hk k
theorem sP {f:FuncId} {xs:Array Operand} {as:Array TypeId} {args:List LV} {r:LV} (bs:List Nat) (ha:fT (L.b9 bs).heap (xs.toList.map L.ev) args) (hk:ax P f args r) (k:opsL P dr ops rest ((L.b9 bs).put dst r) K)
  (hg:dY ops L ⟨dst,.call ⟨.value (.func f),xs,as⟩,ty,pos,af,g⟩ true:=by exact gd) (h0:bs.contains 0=false:=by exact rfl):opsL P dr ops (⟨dst,.call ⟨.value (.func f),xs,as⟩,ty,pos,af,g⟩ :: rest) L K:=ahQ bs hg h0 ha hk k
end
def Nx1 {α:Type} (S:α->St->St) (C:α->Prop) (μ:α->Nat) (a:α) (L:St):Prop:=∃ a' L2,C a'/\μ a'<μ a/\az L (S a' L2)
theorem dU {α:Type} {P:Program} {Q:jW->St->Prop} {L:St} {k:Code} (S:α->St->St) (C:α->Prop) (μ:α->Nat) (a:α) (hC:C a) (hr:∀ a' L1,C a'->cP P k (px (Nx1 S C μ a') Q) (S a' L1))
  (h0:∃ L1,az L (S a L1):=by apply agC;repeat (first | exact bG cl | refine aj ?_ cl)):cP P (.loop k) Q L:=by
 refine agH (α:=α) (fun x=>S x) (fun x=>C x) (fun x=>μ x) a hC h0 ?_
 rintro a' L1 hc
 refine ab0 (fun e L h=>?_) (hr a' L1 hc)
 cases e with
 | normal =>
  obtain⟨a1,L2,h1,h2,h3⟩:=h
  exact⟨a1,L2,h1,h2,h3⟩
 | exit i=>exact h
 | ret=>exact h
theorem iD {α:Type} {S:α->St->St} {C:α->Prop} {μ:α->Nat} {a:α} {L L2:St} (a':α) (hc:C a') (hm:μ a'<μ a:=by omega) (he:az L (S a' L2):=by apply az.of_eq;repeat (first | exact bG cl | refine aj ?_ cl)):Nx1 S C μ a L:=⟨a',L2,hc,hm,he⟩
def Nx2 {α β:Type} (S:α->β->St->St) (C:α->β->Prop) (μ:α->β->Nat) (a:α) (b:β) (L:St):Prop:=∃ a' b' L2,C a' b'/\μ a' b'<μ a b/\az L (S a' b' L2)
theorem lG {α β:Type} {P:Program} {Q:jW->St->Prop} {L:St} {k:Code} (S:α->β->St->St) (C:α->β->Prop) (μ:α->β->Nat) (a:α) (b:β) (hC:C a b) (hr:∀ a' b' L1,C a' b'->cP P k (px (Nx2 S C μ a' b') Q) (S a' b' L1))
  (h0:∃ L1,az L (S a b L1):=by apply agC;repeat (first | exact bG cl | refine aj ?_ cl)):cP P (.loop k) Q L:=by
 refine agH (α:=α × β) (fun x=>S x.1 x.2) (fun x=>C x.1 x.2) (fun x=>μ x.1 x.2) (a,b) hC h0 ?_
 rintro⟨a',b'⟩ L1 hc
 refine ab0 (fun e L h=>?_) (hr a' b' L1 hc)
 cases e with
 | normal =>
  obtain⟨a1,b1,L2,h1,h2,h3⟩:=h
  exact⟨(a1,b1),L2,h1,h2,h3⟩
 | exit i=>exact h
 | ret=>exact h
theorem iW {α β:Type} {S:α->β->St->St} {C:α->β->Prop} {μ:α->β->Nat} {a:α} {b:β} {L L2:St} (a':α) (b':β) (hc:C a' b') (hm:μ a' b'<μ a b:=by omega) (he:az L (S a' b' L2):=by apply az.of_eq;repeat (first | exact bG cl | refine aj ?_ cl)):Nx2 S C μ a b L:=⟨a',b',L2,hc,hm,he⟩
def Nx3 {α β γ:Type} (S:α->β->γ->St->St) (C:α->β->γ->Prop) (μ:α->β->γ->Nat) (a:α) (b:β) (c:γ) (L:St):Prop:=∃ a' b' c' L2,C a' b' c'/\μ a' b' c'<μ a b c/\az L (S a' b' c' L2)
theorem tV {α β γ:Type} {P:Program} {Q:jW->St->Prop} {L:St} {k:Code} (S:α->β->γ->St->St) (C:α->β->γ->Prop) (μ:α->β->γ->Nat) (a:α) (b:β) (c:γ) (hC:C a b c) (hr:∀ a' b' c' L1,C a' b' c'->cP P k (px (Nx3 S C μ a' b' c') Q) (S a' b' c' L1))
  (h0:∃ L1,az L (S a b c L1):=by apply agC;repeat (first | exact bG cl | refine aj ?_ cl)):cP P (.loop k) Q L:=by
 refine agH (α:=α × β × γ) (fun x=>S x.1 x.2.1 x.2.2) (fun x=>C x.1 x.2.1 x.2.2) (fun x=>μ x.1 x.2.1 x.2.2) (a,b,c) hC h0 ?_
 rintro⟨a',b',c'⟩ L1 hc
 refine ab0 (fun e L h=>?_) (hr a' b' c' L1 hc)
 cases e with
 | normal =>
  obtain⟨a1,b1,c1,L2,h1,h2,h3⟩:=h
  exact⟨(a1,b1,c1),L2,h1,h2,h3⟩
 | exit i=>exact h
 | ret=>exact h
theorem tD {α β γ:Type} {S:α->β->γ->St->St} {C:α->β->γ->Prop} {μ:α->β->γ->Nat} {a:α} {b:β} {c:γ} {L L2:St} (a':α) (b':β) (c':γ) (hc:C a' b' c') (hm:μ a' b' c'<μ a b c:=by omega) (he:az L (S a' b' c' L2):=by apply az.of_eq;repeat (first | exact bG cl | refine aj ?_ cl)):Nx3 S C μ a b c L:=⟨a',b',c',L2,hc,hm,he⟩
def Nx4 {α β γ δ:Type} (S:α->β->γ->δ->St->St) (C:α->β->γ->δ->Prop) (μ:α->β->γ->δ->Nat) (a:α) (b:β) (c:γ) (d:δ) (L:St):Prop:=∃ a' b' c' d' L2,C a' b' c' d'/\μ a' b' c' d'<μ a b c d/\az L (S a' b' c' d' L2)
theorem lp4 {α β γ δ:Type} {P:Program} {Q:jW->St->Prop} {L:St} {k:Code} (S:α->β->γ->δ->St->St) (C:α->β->γ->δ->Prop) (μ:α->β->γ->δ->Nat) (a:α) (b:β) (c:γ) (d:δ) (hC:C a b c d) (hr:∀ a' b' c' d' L1,C a' b' c' d'->cP P k (px (Nx4 S C μ a' b' c' d') Q) (S a' b' c' d' L1))
  (h0:∃ L1,az L (S a b c d L1):=by apply agC;repeat (first | exact bG cl | refine aj ?_ cl)):cP P (.loop k) Q L:=by
 refine agH (α:=α × β × γ × δ) (fun x=>S x.1 x.2.1 x.2.2.1 x.2.2.2) (fun x=>C x.1 x.2.1 x.2.2.1 x.2.2.2) (fun x=>μ x.1 x.2.1 x.2.2.1 x.2.2.2) (a,b,c,d) hC h0 ?_
 rintro⟨a',b',c',d'⟩ L1 hc
 refine ab0 (fun e L h=>?_) (hr a' b' c' d' L1 hc)
 cases e with
 | normal =>
  obtain⟨a1,b1,c1,d1,L2,h1,h2,h3⟩:=h
  exact⟨(a1,b1,c1,d1),L2,h1,h2,h3⟩
 | exit i=>exact h
 | ret=>exact h
theorem qW {α β γ δ:Type} {S:α->β->γ->δ->St->St} {C:α->β->γ->δ->Prop} {μ:α->β->γ->δ->Nat} {a:α} {b:β} {c:γ} {d:δ} {L L2:St} (a':α) (b':β) (c':γ) (d':δ) (hc:C a' b' c' d') (hm:μ a' b' c' d'<μ a b c d:=by omega) (he:az L (S a' b' c' d' L2):=by apply az.of_eq;repeat (first | exact bG cl | refine aj ?_ cl)):Nx4 S C μ a b c d L:=⟨a',b',c',d',L2,hc,hm,he⟩
structure V3 where
 x:Rat
 y:Rat
 z:Rat
instance:Inhabited V3:=⟨⟨0,0,0⟩⟩
def a6 (p:V3):LV:=.agg [ah p.x,ah p.y,ah p.z]
theorem bo:iJ a6 9 true:=by
 refine⟨fun s=>?_,fun s=>rfl,fun s=>?_⟩<;>simp [a6,LV.aw,cU,LV.pure,aN,ar.aw,ar.pure]
structure aK where
 p:V3
 w:Rat
instance:Inhabited aK:=⟨⟨⟨0,0,0⟩,0⟩⟩
def aW (q:aK):LV:=.agg [a6 q.p,ah q.w]
theorem bH:iJ aW 12 true:=by
 refine⟨fun s=>?_,fun s=>rfl,fun s=>?_⟩<;>simp [aW,LV.aw,cU,LV.pure,aN,ar.aw,ar.pure,bo.aw,bo.pure]
theorem tw (l:List LV):(LV.agg l).isAgg=true:=rfl
theorem ad2 (c:Value):(LV.v c).isAgg=false:=rfl
theorem laE {p:Prop} (h:p:=by(simp only [List.forall_mem_cons];simp [lay,LV.aw,cU,tw,ad2,ar.aw,cg.aw,ar.isAgg,cg.isAgg])):p:=h
theorem cs {p:Prop} (h:p:=by first | exact rfl | (simp [LV.aw,cU,lay,tw,ad2,ar.aw,cg.aw,bo.aw,bH.aw,ar.isAgg,cg.isAgg,bo.isAgg,bH.isAgg];done)):p:=h
theorem pu {p:Prop} (h:p:=by first | exact rfl | (simp [LV.pure,aN,ar.pure,cg.pure,bo.pure,bH.pure, *];done)):p:=h
theorem dS {y:LV} {n:Nat} (hy:y.aw=n) (ha:y.isAgg=true):y.at 0 n true=some y:=by
 cases y with
 | agg l=>simp only [LV.aw] at hy;simp [LV.at,hy]
 | _=>cases ha
theorem alz (a b:Rat):(ah a).put 0 (ah b)=some (ah b):=agd _ _ (by rw [ar.aw,ar.aw]) (by rw [ar.isAgg,ar.isAgg])
theorem aAo (a b:Rat × Rat):(aH a).put 0 (aH b)=some (aH b):=agd _ _ (by rw [cg.aw,cg.aw]) (by rw [cg.isAgg,cg.isAgg])
theorem aA0 (s:Rat × Rat) (r:Rat):(aH s).put 0 (ah r)=some (aH (r,s.2)):=by
 rw [yn,yn];simp [LV.put,yO,cU,ar.aw,ar.isAgg,alz]
theorem aHk (s:Rat × Rat) (r:Rat):(aH s).put 3 (ah r)=some (aH (s.1,r)):=by
 rw [yn,yn];simp [LV.put,yO,cU,ar.aw,ar.isAgg,alz]
theorem atp {p:Prop} (h:p:=by first | exact dS (y:=a6 _) (bo.aw _) rfl | exact dS (y:=aW _) (bH.aw _) rfl | exact rfl | (simp only [nO,List.take_succ_cons,List.take_zero,List.take_nil,LV.at,uh,a6,aW,dS,qm,aaD,apY,auj,LV.aw,cU,ar.aw,cg.aw,ar.isAgg,cg.isAgg,Nat.reduceAdd,Nat.reduceLT,Nat.reduceSub,Nat.reduceMul,Nat.add_zero,Nat.zero_add,Int.toNat_natCast,Int.reduceToNat,Int.reduceAdd,Nat.reduceEqDiff,reduceIte,and_true,true_and,and_false,false_and,if_true,if_false,Bool.false_eq_true,Bool.true_eq_false,eq_self,Nat.sub_zero,Nat.lt_irrefl,Nat.sub_self,Nat.zero_mul,Nat.zero_lt_succ]<;>exact rfl)):p:=h
theorem ptp {p:Prop} (h:p:=by first | exact rfl | (simp only [nO,List.take_succ_cons,List.take_zero,List.take_nil,LV.put,yO,a6,aW,LV.aw,cU,tw,ad2,ar.aw,cg.aw,ar.isAgg,cg.isAgg,alz,aAo,aA0,aHk,Option.map_some,Nat.reduceAdd,Nat.reduceLT,Nat.reduceSub,Nat.reduceMul,Nat.add_zero,Nat.zero_add,Int.toNat_natCast,Int.reduceToNat,Int.reduceAdd,Nat.reduceEqDiff,reduceIte,and_true,true_and,and_false,false_and,if_true,if_false,Bool.false_eq_true,Bool.true_eq_false,eq_self,Nat.sub_zero,Nat.lt_irrefl,Nat.sub_self,Nat.zero_mul,Nat.zero_lt_succ]<;>exact rfl)):p:=h
section
variable {P:Program} {H:bW} {ρ:Operand->LV} {T E:TypeId} {p x i:Operand} {n sz:Nat} {ag:Bool} {fs:List LV} {r:LV} {k:IntKind} {m:Int} {b o j:Nat}
theorem aE.ixa [u:UN P T (.array n E)] [t:TI P E sz ag] (hx:ρ x=.agg fs) (hi:ρ i=.v (.int k m)) (h0:0<=m) (hr:fs[m.toNat]?=some r) (hp:r.pure=true) (hf:fs.map lay=ay n (sz,ag)):aE P H ρ (.index T x i) r:=.aaK hx u.h t.h hf hi h0 hr hp
theorem aE.ixe [u:UN P T (.array n E)] [t:TI P E sz ag] {s2:Nat} (hx:ρ x=.aB b s2 j o) (hi:ρ i=.v (.int k m)) (h0:0<=m) (hm:m<n):aE P H ρ (.indexAddr T x i) (.aB b s2 j (o+m.toNat*sz)):=.abt hx u.h t.h hi h0 hm
theorem aE.ixb [u:UN P T (.array n E)] [t:TI P E sz ag] (hx:ρ x=.cm (.agg fs)) (hi:ρ i=.v (.int k m)) (h0:0<=m) (hr:fs[m.toNat]?=some r) (hf:fs.map lay=ay n (sz,ag)):aE P H ρ (.indexAddr T x i) (.cm r):=.abe hx u.h t.h hf hi h0 hr
theorem aE.yR {zs:List LV} {ps:Array (Nat × Operand)} [u:UN P T (.array n E)] [t:TI P E sz ag] [z:ZI P T (.agg zs)] (h:∀ z∈zs,lay z=(sz,ag)) (hp:∀ p∈ps.toList,∃ z,zs[p.1]?=some z/\lay (ρ p.2)=lay z/\ρ p.2≠.any/\∀ m,ρ p.2≠.bf m) :
  aE P H ρ (.build T ps) (.agg (jR zs (ps.toList.map fun p=>(p.1,ρ p.2)))):=.aaJ u.h t.h h z.h hp
theorem aE.aEO {o0 o1 o2:Operand} {a b c:Rat} [u:UN P T (.array 3 E)] [t:TI P E 3 true] [z:ZI P T (.agg [ah 0,ah 0,ah 0])] (h0:ρ o0=ah a) (h1:ρ o1=ah b) (h2:ρ o2=ah c) :
  aE P H ρ (.build T #[(0,o0),(1,o1),(2,o2)]) (.agg [ah a,ah b,ah c]):=by
 have:=aE.yR (H:=H) (ρ:=ρ) (ps:=#[(0,o0),(1,o1),(2,o2)]) (u:=u) (t:=t) (z:=z) (by simp [lay,ar.aw,ar.isAgg]) (by
  intro p hp
  simp only [fu,jn,or_false] at hp
  rcases hp with rfl | rfl | rfl
  ·exact ai1
  ·exact⟨_,rfl,by rw [h1];simp [lay,ar.aw,ar.isAgg],by rw [h1];exact LV.fk (ar.pure _),by rw [h1];exact LV.eP (ar.pure _)⟩
  ·exact⟨_,rfl,by rw [h2];simp [lay,ar.aw,ar.isAgg],by rw [h2];exact LV.fk (ar.pure _),by rw [h2];exact LV.eP (ar.pure _)⟩)
 simpa only [jR,sW,tn,uY,h0,h1,h2] using this
theorem aE.aHK {o0 o1 o2 o3:Operand} {a b c d:Rat} [u:UN P T (.array 4 E)] [t:TI P E 3 true] [z:ZI P T (.agg [ah 0,ah 0,ah 0,ah 0])] (h0:ρ o0=ah a) (h1:ρ o1=ah b) (h2:ρ o2=ah c) (h3:ρ o3=ah d) :
  aE P H ρ (.build T #[(0,o0),(1,o1),(2,o2),(3,o3)]) (.agg [ah a,ah b,ah c,ah d]):=by
 have:=aE.yR (H:=H) (ρ:=ρ) (ps:=#[(0,o0),(1,o1),(2,o2),(3,o3)]) (u:=u) (t:=t) (z:=z) (by simp [lay,ar.aw,ar.isAgg]) (by
  intro p hp
  simp only [fu,jn,or_false] at hp
  rcases hp with rfl | rfl | rfl | rfl
  ·exact ai1
  ·exact⟨_,rfl,by rw [h1];simp [lay,ar.aw,ar.isAgg],by rw [h1];exact LV.fk (ar.pure _),by rw [h1];exact LV.eP (ar.pure _)⟩
  ·exact⟨_,rfl,by rw [h2];simp [lay,ar.aw,ar.isAgg],by rw [h2];exact LV.fk (ar.pure _),by rw [h2];exact LV.eP (ar.pure _)⟩
  ·exact⟨_,rfl,by rw [h3];simp [lay,ar.aw,ar.isAgg],by rw [h3];exact LV.fk (ar.pure _),by rw [h3];exact LV.eP (ar.pure _)⟩)
 simpa only [jR,sW,tn,uY,h0,h1,h2,h3] using this
theorem aE.aGz {o0 o1:Operand} {a b:Rat} [u:UN P T (.array 2 E)] [t:TI P E 3 true] [z:ZI P T (.agg [ah 0,ah 0])] (h0:ρ o0=ah a) (h1:ρ o1=ah b):aE P H ρ (.build T #[(0,o0),(1,o1)]) (.agg [ah a,ah b]):=by
 have:=aE.yR (H:=H) (ρ:=ρ) (ps:=#[(0,o0),(1,o1)]) (u:=u) (t:=t) (z:=z) (by simp [lay,ar.aw,ar.isAgg]) (by
  intro p hp
  simp only [fu,jn,or_false] at hp
  rcases hp with rfl | rfl
  ·exact ai1
  ·exact⟨_,rfl,by rw [h1];simp [lay,ar.aw,ar.isAgg],by rw [h1];exact LV.fk (ar.pure _),by rw [h1];exact LV.eP (ar.pure _)⟩)
 simpa only [jR,sW,tn,uY,h0,h1] using this
theorem aE.aAS {o0 o1 o2:Operand} {a b c d e f:Rat} [u:UN P T (.array 3 E)] [t:TI P E 6 true] [z:ZI P T (.agg [.agg [ah 0,ah 0],.agg [ah 0,ah 0],.agg [ah 0,ah 0]])]
  (h0:ρ o0=.agg [ah a,ah b]) (h1:ρ o1=.agg [ah c,ah d]) (h2:ρ o2=.agg [ah e,ah f]):aE P H ρ (.build T #[(0,o0),(1,o1),(2,o2)]) (.agg [.agg [ah a,ah b],.agg [ah c,ah d],.agg [ah e,ah f]]):=by
 have:=aE.yR (H:=H) (ρ:=ρ) (ps:=#[(0,o0),(1,o1),(2,o2)]) (u:=u) (t:=t) (z:=z) (by simp [lay,LV.aw,cU,ar.aw,tw]) (by
  intro p hp
  simp only [fu,jn,or_false] at hp
  rcases hp with rfl | rfl | rfl
  ·exact⟨_,rfl,by rw [h0];simp [lay,LV.aw,cU,ar.aw,tw],by rw [h0];exact(fun h=>LV.noConfusion h),by rw [h0];exact(fun _ h=>LV.noConfusion h)⟩
  ·exact⟨_,rfl,by rw [h1];simp [lay,LV.aw,cU,ar.aw,tw],by rw [h1];exact(fun h=>LV.noConfusion h),by rw [h1];exact(fun _ h=>LV.noConfusion h)⟩
  ·exact⟨_,rfl,by rw [h2];simp [lay,LV.aw,cU,ar.aw,tw],by rw [h2];exact(fun h=>LV.noConfusion h),by rw [h2];exact(fun _ h=>LV.noConfusion h)⟩)
 simpa only [jR,sW,tn,uY,h0,h1,h2] using this
theorem aE.ldp {vals:List LV} {y:LV} {mt:Bool} [t:TI P T n ag] (hp:ρ p=.aB b sz j o) (hb:H b=some ⟨sz,vals,mt⟩) (hi:vals[j]?=some y) (hy:y.aw=sz) (hr:y.at o n ag=some r):aE P H ρ (.load T p) r:=.fU hp hb rfl hi hy hr t.h
theorem aE.sV {c:LV} [t:TI P T n ag] (hp:ρ p=.cm c) (hc:c.pure=true) (hs:c.aw=n) (ha:c.isAgg=ag):aE P H ρ (.load T p) c:=.zH hp (by rw [hs,ha];exact t.h) hc
theorem gO.jE {L:St} {vals:List LV} {y y' v:LV} {dst:Option Tmp} [t:TI P T n ag] (hp:L.ev p=.aB b sz j o) (hb:L.heap b=some ⟨sz,vals,true⟩) (hi:vals[j]?=some y) (hx:L.ev x=v) (hy:y.aw=sz) (hv:v.aw=n) (hva:v.isAgg=ag) (mS:y.put o v=some y') (aX:v≠.any/\∀ m,v≠.bf m) :
  gO P L dst (.store T p x) ((L.bO b (some ⟨sz,vals.set j y',true⟩)).put dst .any):=.store hp hb rfl rfl hi hy (by rw [hx];exact mS) (by rw [hx,hv,hva];exact t.h) (by rw [hx];exact aX)
end
theorem nx_ {z x:LV} {zs:List LV} {k:Nat} (h1:zs[k]?=some z) (h2:lay x=lay z) (h3:x≠.any/\∀ m,x≠.bf m):∃ z,zs[k]?=some z/\lay x=lay z/\x≠.any/\∀ m,x≠.bf m:=⟨z,h1,h2,h3⟩
theorem aho {p:Prop} (h:p:=by(simp only [List.forall_mem_cons];repeat (first | exact(fun _ h=>by cases h) | refine⟨nx_ rfl cs mE,?_⟩))):p:=h
structure iK (q:Prop):Prop where
 h:q
theorem iB {P:Program} {H:bW} {ρ:Operand->LV} {T:TypeId} {p:Operand} {x:LV} (h:aE P H ρ (.load T p) x:=by first | (apply aE.ldB;exact rfl) | exact .aFQ rfl rfl rfl TI.h | exact .aHR rfl rfl rfl TI.h | (apply aE.ldE;exact rfl;exact rfl;exact om) | exact .aD9 rfl rfl rfl TI.h | exact .aBS rfl rfl rfl TI.h | exact .aGr rfl rfl rfl TI.h | exact .aGQ rfl rfl rfl TI.h | exact .aHH rfl rfl rfl TI.h | exact .fU rfl rfl rfl rfl rfl rfl TI.h | (apply aE.ldp;exact rfl;exact rfl;exact rfl;exact cs;exact atp) | (apply aE.sV;exact rfl;exact pu;exact cs;exact cs)):aE P H ρ (.load T p) x:=h
section
variable {P:Program} {H:bW} {ρ:Operand->LV} {T U:TypeId} {x y:Operand}
theorem aE.aI {a b:Int} (hx:ρ x=.v (.int .i64 a)) (hy:ρ y=.v (.int .i64 b)) (h1:-9223372036854775808<=a+b) (h2:a+b<=9223372036854775807):aE P H ρ (.binOp .add T x y U) (.v (.int .i64 (a+b))):=.bin hx hy (sf h1 h2)
theorem aE.sI {a b:Int} (hx:ρ x=.v (.int .i64 a)) (hy:ρ y=.v (.int .i64 b)) (h1:-9223372036854775808<=a-b) (h2:a-b<=9223372036854775807):aE P H ρ (.binOp .sub T x y U) (.v (.int .i64 (a-b))):=.bin hx hy (aau h1 h2)
theorem aE.mI {a b:Int} (hx:ρ x=.v (.int .i64 a)) (hy:ρ y=.v (.int .i64 b)) (h1:-9223372036854775808<=a*b) (h2:a*b<=9223372036854775807):aE P H ρ (.binOp .mul T x y U) (.v (.int .i64 (a*b))):=.bin hx hy (ah4 h1 h2)
theorem aE.aU {a b:Nat} (hx:ρ x=.v (.int .u64 (a:Nat))) (hy:ρ y=.v (.int .u64 (b:Nat))) (h:a+b<18446744073709551616):aE P H ρ (.binOp .add T x y U) (.v (.int .u64 ((a+b:Nat):Int))):=.bin hx hy (asi h)
theorem aE.mU {a b:Nat} (hx:ρ x=.v (.int .u64 (a:Nat))) (hy:ρ y=.v (.int .u64 (b:Nat))) (h:a*b<18446744073709551616):aE P H ρ (.binOp .mul T x y U) (.v (.int .u64 ((a*b:Nat):Int))):=.bin hx hy (acL h)
theorem aE.sU {a b:Nat} (hx:ρ x=.v (.int .u64 (a:Nat))) (hy:ρ y=.v (.int .u64 (b:Nat))) (h:b<=a) (h1:a<18446744073709551616):aE P H ρ (.binOp .sub T x y U) (.v (.int .u64 ((a-b:Nat):Int))):=.bin hx hy (asT h h1)
theorem aE.qU {a b:Nat} (hx:ρ x=.v (.int .u64 (a:Nat))) (hy:ρ y=.v (.int .u64 (b:Nat))) (h:0<b) (h1:a<18446744073709551616):aE P H ρ (.binOp .quo T x y U) (.v (.int .u64 ((a/b:Nat):Int))):=.bin hx hy (aiJ h h1)
theorem aE.rU {a b:Nat} (hx:ρ x=.v (.int .u64 (a:Nat))) (hy:ρ y=.v (.int .u64 (b:Nat))) (h:0<b):aE P H ρ (.binOp .rem T x y U) (.v (.int .u64 ((a % b:Nat):Int))):=.bin hx hy (al1 h)
theorem aE.oU {a b:Nat} (hx:ρ x=.v (.int .u64 ((a*4294967296:Nat):Int))) (hy:ρ y=.v (.int .u64 (b:Nat))) (h:b<4294967296) (h1:a<4294967296):aE P H ρ (.binOp .or T x y U) (.v (.int .u64 ((a*4294967296+b:Nat):Int))):=.bin hx hy (orU h h1)
theorem aE.hl {a:Nat} {k:IntKind} (hx:ρ x=.v (.int .u64 (a:Nat))) (hy:ρ y=.v (.int k 32)) (h:a*4294967296<18446744073709551616):aE P H ρ (.binOp .shl T x y U) (.v (.int .u64 ((a*4294967296:Nat):Int))):=.sh hx hy (aeG h)
theorem aE.hr {a:Nat} {k:IntKind} (hx:ρ x=.v (.int .u64 (a:Nat))) (hy:ρ y=.v (.int k 32)):aE P H ρ (.binOp .shr T x y U) (.v (.int .u64 ((a/4294967296:Nat):Int))):=.sh hx hy aH4
theorem aE.aC3 {a:Nat} {k:IntKind} (hx:ρ x=.v (.int .u64 (a:Nat))) (hy:ρ y=.v (.int k 63)):aE P H ρ (.binOp .shr T x y U) (.v (.int .u64 ((a/9223372036854775808:Nat):Int))):=.sh hx hy aF5
end
theorem biA {P:Program} {H:bW} {ρ:Operand->LV} {o:BinOp} {T U:TypeId} {p y:Operand} {x:LV} (h:aE P H ρ (.binOp o T p y U) x:=by first | (apply aE.cmp;exact rfl;exact rfl;exact rfl;exact rfl) | (apply aE.aI;exact rfl;exact rfl;exact om;exact om) | (apply aE.sI;exact rfl;exact rfl;exact om;exact om) | (apply aE.mI;exact rfl;exact rfl;exact om;exact om) | (apply aE.aU;exact rfl;exact rfl;exact om) | (apply aE.mU;exact rfl;exact rfl;exact om) | (apply aE.sU;exact rfl;exact rfl;exact om;exact om) | (apply aE.qU;exact rfl;exact rfl;exact om;exact om) | (apply aE.rU;exact rfl;exact rfl;exact om) | (apply aE.oU;exact rfl;exact rfl;exact om;exact om) | (apply aE.hl;exact rfl;exact rfl;exact om) | (apply aE.hr;exact rfl;exact rfl) | (apply aE.aC3;exact rfl;exact rfl) | (apply aE.beq;exact rfl;exact rfl;exact UN.h) | (apply aE.bne;exact rfl;exact rfl;exact UN.h)):aE P H ρ (.binOp o T p y U) x:=h
theorem xV {P:Program} {H:bW} {ρ:Operand->LV} {b:Builtin} {xs:Array Operand} {as:Array TypeId} {x:LV} (h:aE P H ρ (.call ⟨.builtin b,xs,as⟩) x:=by first | exact .ayF rfl rfl UN.h | exact .z5 rfl rfl UN.h | exact .aaT rfl rfl UN.h | exact .aa0 rfl rfl UN.h | exact .aeb rfl rfl UN.h | exact .aaB rfl rfl UN.h | exact .min2 rfl rfl | exact .max2 rfl rfl):aE P H ρ (.call ⟨.builtin b,xs,as⟩) x:=h
theorem srA {P:Program} {L L':St} {dst:Option Tmp} {T:TypeId} {p x:Operand} (h:gO P L dst (.store T p x) L':=by first | exact .aBp rfl rfl rfl rfl TI.h | exact .azJ rfl rfl rfl TI.h | exact .aH8 rfl rfl rfl TI.h | (apply gO.stE;exact rfl;exact rfl;exact rfl;exact om) | exact .store rfl rfl rfl rfl rfl rfl rfl TI.h mE | (apply gO.jE;exact rfl;exact rfl;exact rfl;(first | exact(rfl:_=ah _) | exact(rfl:_=a6 _) | exact(rfl:_=aW _) | exact(rfl:_=aH _) | exact(rfl:_=LV.agg _) | exact rfl);exact cs;exact cs;exact cs;exact ptp;exact mE)):gO P L dst (.store T p x) L':=h
theorem cvA {P:Program} {H:bW} {ρ:Operand->LV} {S D:TypeId} {p:Operand} {x:LV} (h:aE P H ρ (.convert S D p) x:=by first | exact .ayw UN.h UN.h rfl | (apply aE.aiY;exact UN.h;exact UN.h;exact rfl;exact om) | (apply aE.cvI;exact UN.h;exact UN.h;exact rfl;exact om;exact om) | exact .conv UN.h UN.h rfl):aE P H ρ (.convert S D p) x:=h
theorem akJ {P:Program} {T:TypeId} {l:List (Nat × Bool)} {fs:List LV} (h:lS P T l) (e:fs.map lay=l):lS P T (fs.map lay):=e ▸ h
theorem avA {P:Program} {H:bW} {ρ:Operand->LV} {T:TypeId} {p i:Operand} {x:LV} (h:aE P H ρ (.index T p i) x:=by(apply aE.ixa;exact rfl;exact rfl;exact om;exact rfl;exact pu;exact cs)):aE P H ρ (.index T p i) x:=h
theorem nk {P:Program} {H:bW} {ρ:Operand->LV} {T:TypeId} {p:Operand} {k:Nat} {x:LV} (h:aE P H ρ (.fieldAddr T p k) x:=by first | exact .aa9 rfl SI.h ak | exact .zD rfl SI.h rfl | (refine .zD rfl (akJ SI.h cs) rfl)):aE P H ρ (.fieldAddr T p k) x:=h
theorem xe {P:Program} {H:bW} {ρ:Operand->LV} {T:TypeId} {p i:Operand} {x:LV} (h:aE P H ρ (.indexAddr T p i) x:=by first | (apply aE.ixL;exact rfl;exact rfl;exact om;exact om) | (apply aE.ixR;exact rfl;exact rfl;exact om;exact om) | (apply aE.ixe;exact rfl;exact rfl;exact om;exact om) | (apply aE.ixb;exact rfl;exact rfl;exact om;exact rfl;exact cs)):aE P H ρ (.indexAddr T p i) x:=h
section
variable {P:Program} {dr:Bool} {ops:Array Oper} {rest:List Oper} {L L':St} {K:St->Prop} {dst:Option Tmp} {d:Nat} {ty:TypeId} {pos:String} {af:Array Edge} {j:Nat} {w:Bool} {r:LV} {bk:bh}
theorem ayJ {T:TypeId} {p:Operand} (h:aE P L.heap L.ev (.load T p) r) (kk:opsL P dr ops rest (L.put dst r) K):opsL P dr ops (⟨dst,(.load T p),ty,pos,af,none⟩ :: rest) L K:=ao rfl h kk
theorem aCF {T:TypeId} {p:Operand} (hg:dY ops L ⟨dst,(.load T p),ty,pos,af,some (j,w)⟩ true) (h:aE P L.heap L.ev (.load T p) r) (kk:opsL P dr ops rest (L.put dst r) K):opsL P dr ops (⟨dst,(.load T p),ty,pos,af,some (j,w)⟩ :: rest) L K:=ao hg h kk
theorem aHa {o:BinOp} {T U:TypeId} {p y:Operand} (h:aE P L.heap L.ev (.binOp o T p y U) r) (kk:opsL P dr ops rest (L.put dst r) K):opsL P dr ops (⟨dst,(.binOp o T p y U),ty,pos,af,none⟩ :: rest) L K:=ao rfl h kk
theorem azi {o:BinOp} {T U:TypeId} {p y:Operand} (hg:dY ops L ⟨dst,(.binOp o T p y U),ty,pos,af,some (j,w)⟩ true) (h:aE P L.heap L.ev (.binOp o T p y U) r) (kk:opsL P dr ops rest (L.put dst r) K):opsL P dr ops (⟨dst,(.binOp o T p y U),ty,pos,af,some (j,w)⟩ :: rest) L K:=ao hg h kk
theorem aC2 {b:Builtin} {xs:Array Operand} {as:Array TypeId} (h:aE P L.heap L.ev (.call ⟨.builtin b,xs,as⟩) r) (kk:opsL P dr ops rest (L.put dst r) K):opsL P dr ops (⟨dst,(.call ⟨.builtin b,xs,as⟩),ty,pos,af,none⟩ :: rest) L K:=ao rfl h kk
theorem aIu {b:Builtin} {xs:Array Operand} {as:Array TypeId} (hg:dY ops L ⟨dst,(.call ⟨.builtin b,xs,as⟩),ty,pos,af,some (j,w)⟩ true) (h:aE P L.heap L.ev (.call ⟨.builtin b,xs,as⟩) r) (kk:opsL P dr ops rest (L.put dst r) K):opsL P dr ops (⟨dst,(.call ⟨.builtin b,xs,as⟩),ty,pos,af,some (j,w)⟩ :: rest) L K:=ao hg h kk
theorem aC7 {T:TypeId} {p:Operand} {k:Nat} (h:aE P L.heap L.ev (.fieldAddr T p k) r) (kk:opsL P dr ops rest (L.put dst r) K):opsL P dr ops (⟨dst,(.fieldAddr T p k),ty,pos,af,none⟩ :: rest) L K:=ao rfl h kk
theorem aIs {T:TypeId} {p:Operand} {k:Nat} (hg:dY ops L ⟨dst,(.fieldAddr T p k),ty,pos,af,some (j,w)⟩ true) (h:aE P L.heap L.ev (.fieldAddr T p k) r) (kk:opsL P dr ops rest (L.put dst r) K):opsL P dr ops (⟨dst,(.fieldAddr T p k),ty,pos,af,some (j,w)⟩ :: rest) L K:=ao hg h kk
theorem aFo {T:TypeId} {p y:Operand} (h:aE P L.heap L.ev (.index T p y) r) (kk:opsL P dr ops rest (L.put dst r) K):opsL P dr ops (⟨dst,(.index T p y),ty,pos,af,none⟩ :: rest) L K:=ao rfl h kk
theorem aza {T:TypeId} {p y:Operand} (hg:dY ops L ⟨dst,(.index T p y),ty,pos,af,some (j,w)⟩ true) (h:aE P L.heap L.ev (.index T p y) r) (kk:opsL P dr ops rest (L.put dst r) K):opsL P dr ops (⟨dst,(.index T p y),ty,pos,af,some (j,w)⟩ :: rest) L K:=ao hg h kk
theorem aEb {T:TypeId} {p y:Operand} (h:aE P L.heap L.ev (.indexAddr T p y) r) (kk:opsL P dr ops rest (L.put dst r) K):opsL P dr ops (⟨dst,(.indexAddr T p y),ty,pos,af,none⟩ :: rest) L K:=ao rfl h kk
theorem aG9 {T:TypeId} {p y:Operand} (hg:dY ops L ⟨dst,(.indexAddr T p y),ty,pos,af,some (j,w)⟩ true) (h:aE P L.heap L.ev (.indexAddr T p y) r) (kk:opsL P dr ops rest (L.put dst r) K):opsL P dr ops (⟨dst,(.indexAddr T p y),ty,pos,af,some (j,w)⟩ :: rest) L K:=ao hg h kk
theorem azM {p:Operand} {k:Nat} (h:aE P L.heap L.ev (.extract p k) r) (kk:opsL P dr ops rest (L.put dst r) K):opsL P dr ops (⟨dst,(.extract p k),ty,pos,af,none⟩ :: rest) L K:=ao rfl h kk
theorem aH3 {p:Operand} {k:Nat} (hg:dY ops L ⟨dst,(.extract p k),ty,pos,af,some (j,w)⟩ true) (h:aE P L.heap L.ev (.extract p k) r) (kk:opsL P dr ops rest (L.put dst r) K):opsL P dr ops (⟨dst,(.extract p k),ty,pos,af,some (j,w)⟩ :: rest) L K:=ao hg h kk
theorem ay8 {p y z:Operand} (h:aE P L.heap L.ev (.pick p y z) r) (kk:opsL P dr ops rest (L.put dst r) K):opsL P dr ops (⟨dst,(.pick p y z),ty,pos,af,none⟩ :: rest) L K:=ao rfl h kk
theorem aAz {p y z:Operand} (hg:dY ops L ⟨dst,(.pick p y z),ty,pos,af,some (j,w)⟩ true) (h:aE P L.heap L.ev (.pick p y z) r) (kk:opsL P dr ops rest (L.put dst r) K):opsL P dr ops (⟨dst,(.pick p y z),ty,pos,af,some (j,w)⟩ :: rest) L K:=ao hg h kk
theorem aDH {T U:TypeId} {p:Operand} (h:aE P L.heap L.ev (.convert T U p) r) (kk:opsL P dr ops rest (L.put dst r) K):opsL P dr ops (⟨dst,(.convert T U p),ty,pos,af,none⟩ :: rest) L K:=ao rfl h kk
theorem aBF {T U:TypeId} {p:Operand} (hg:dY ops L ⟨dst,(.convert T U p),ty,pos,af,some (j,w)⟩ true) (h:aE P L.heap L.ev (.convert T U p) r) (kk:opsL P dr ops rest (L.put dst r) K):opsL P dr ops (⟨dst,(.convert T U p),ty,pos,af,some (j,w)⟩ :: rest) L K:=ao hg h kk
theorem aCA {u:UnOp} {T:TypeId} {p:Operand} (h:aE P L.heap L.ev (.unOp u T p) r) (kk:opsL P dr ops rest (L.put dst r) K):opsL P dr ops (⟨dst,(.unOp u T p),ty,pos,af,none⟩ :: rest) L K:=ao rfl h kk
theorem ayI {u:UnOp} {T:TypeId} {p:Operand} (hg:dY ops L ⟨dst,(.unOp u T p),ty,pos,af,some (j,w)⟩ true) (h:aE P L.heap L.ev (.unOp u T p) r) (kk:opsL P dr ops rest (L.put dst r) K):opsL P dr ops (⟨dst,(.unOp u T p),ty,pos,af,some (j,w)⟩ :: rest) L K:=ao hg h kk
theorem aE9 {T:TypeId} {p:Operand} {k:Nat} (h:aE P L.heap L.ev (.field T p k) r) (kk:opsL P dr ops rest (L.put dst r) K):opsL P dr ops (⟨dst,(.field T p k),ty,pos,af,none⟩ :: rest) L K:=ao rfl h kk
theorem aCy {T:TypeId} {p:Operand} {k:Nat} (hg:dY ops L ⟨dst,(.field T p k),ty,pos,af,some (j,w)⟩ true) (h:aE P L.heap L.ev (.field T p k) r) (kk:opsL P dr ops rest (L.put dst r) K):opsL P dr ops (⟨dst,(.field T p k),ty,pos,af,some (j,w)⟩ :: rest) L K:=ao hg h kk
theorem aBI {p:Operand} (h:aE P L.heap L.ev (.nilCheck p) r) (kk:opsL P dr ops rest (L.put dst r) K):opsL P dr ops (⟨dst,(.nilCheck p),ty,pos,af,none⟩ :: rest) L K:=ao rfl h kk
theorem aBT {p:Operand} (hg:dY ops L ⟨dst,(.nilCheck p),ty,pos,af,some (j,w)⟩ true) (h:aE P L.heap L.ev (.nilCheck p) r) (kk:opsL P dr ops rest (L.put dst r) K):opsL P dr ops (⟨dst,(.nilCheck p),ty,pos,af,some (j,w)⟩ :: rest) L K:=ao hg h kk
theorem rO {T:TypeId} {ps:Array (Nat × Operand)} (h:aE P L.heap L.ev (.build T ps) r) (kk:opsL P dr ops rest (L.put dst r) K):opsL P dr ops (⟨dst,(.build T ps),ty,pos,af,none⟩ :: rest) L K:=ao rfl h kk
theorem aGC {T:TypeId} {ps:Array (Nat × Operand)} (hg:dY ops L ⟨dst,(.build T ps),ty,pos,af,some (j,w)⟩ true) (h:aE P L.heap L.ev (.build T ps) r) (kk:opsL P dr ops rest (L.put dst r) K):opsL P dr ops (⟨dst,(.build T ps),ty,pos,af,some (j,w)⟩ :: rest) L K:=ao hg h kk
theorem aGk {p:Operand} (hg:dY ops L ⟨dst,(.move p),ty,pos,af,some (j,w)⟩ true) (h:aE P L.heap L.ev (.move p) r) (kk:opsL P dr ops rest (L.put dst r) K):opsL P dr ops (⟨dst,(.move p),ty,pos,af,some (j,w)⟩ :: rest) L K:=ao hg h kk
theorem aIw {p:Operand} (hg:dY ops L ⟨dst,(.assign p),ty,pos,af,some (j,w)⟩ true) (h:aE P L.heap L.ev (.assign p) r) (kk:opsL P dr ops rest (L.put dst r) K):opsL P dr ops (⟨dst,(.assign p),ty,pos,af,some (j,w)⟩ :: rest) L K:=ao hg h kk
theorem aDd {T:TypeId} {p:Operand} (hd:L.heap d=none) (h:dA P L.ev d (.box T p) r bk) (kk:opsL P dr ops rest ((L.bO d (some bk)).put (some d) r) K):opsL P dr ops (⟨some d,(.box T p),ty,pos,af,none⟩ :: rest) L K:=fG rfl hd h kk
theorem aBU {T:TypeId} {p:Operand} (hg:dY ops L ⟨some d,(.box T p),ty,pos,af,some (j,w)⟩ true) (hd:L.heap d=none) (h:dA P L.ev d (.box T p) r bk) (kk:opsL P dr ops rest ((L.bO d (some bk)).put (some d) r) K):opsL P dr ops (⟨some d,(.box T p),ty,pos,af,some (j,w)⟩ :: rest) L K:=fG hg hd h kk
theorem aGs {T:TypeId} (hd:L.heap d=none) (h:dA P L.ev d (.alloc T) r bk) (kk:opsL P dr ops rest ((L.bO d (some bk)).put (some d) r) K):opsL P dr ops (⟨some d,(.alloc T),ty,pos,af,none⟩ :: rest) L K:=fG rfl hd h kk
theorem azv {T:TypeId} (hg:dY ops L ⟨some d,(.alloc T),ty,pos,af,some (j,w)⟩ true) (hd:L.heap d=none) (h:dA P L.ev d (.alloc T) r bk) (kk:opsL P dr ops rest ((L.bO d (some bk)).put (some d) r) K):opsL P dr ops (⟨some d,(.alloc T),ty,pos,af,some (j,w)⟩ :: rest) L K:=fG hg hd h kk
theorem aHm {T:TypeId} {n:Nat} {ps:Array (Nat × Operand)} (hd:L.heap d=none) (h:dA P L.ev d (.buildSlice T n ps) r bk) (kk:opsL P dr ops rest ((L.bO d (some bk)).put (some d) r) K):opsL P dr ops (⟨some d,(.buildSlice T n ps),ty,pos,af,none⟩ :: rest) L K:=fG rfl hd h kk
theorem aFV {T:TypeId} {n:Nat} {ps:Array (Nat × Operand)} (hg:dY ops L ⟨some d,(.buildSlice T n ps),ty,pos,af,some (j,w)⟩ true) (hd:L.heap d=none) (h:dA P L.ev d (.buildSlice T n ps) r bk) (kk:opsL P dr ops rest ((L.bO d (some bk)).put (some d) r) K):opsL P dr ops (⟨some d,(.buildSlice T n ps),ty,pos,af,some (j,w)⟩ :: rest) L K:=fG hg hd h kk
theorem aA4 {T:TypeId} {p y:Operand} (h:gO P L dst (.store T p y) L') (kk:opsL P dr ops rest L' K):opsL P dr ops (⟨dst,.store T p y,ty,pos,af,none⟩ :: rest) L K:=bU rfl h kk
theorem aI6 {T:TypeId} {p y:Operand} (hg:dY ops L ⟨dst,.store T p y,ty,pos,af,some (j,w)⟩ true) (h:gO P L dst (.store T p y) L') (kk:opsL P dr ops rest L' K):opsL P dr ops (⟨dst,.store T p y,ty,pos,af,some (j,w)⟩ :: rest) L K:=bU hg h kk
theorem aGi {op:Op} (hg:dY ops L ⟨dst,op,ty,pos,af,some (j,w)⟩ false) (kk:opsL P dr ops rest (L.put dst (.bf [])) K):opsL P dr ops (⟨dst,op,ty,pos,af,some (j,w)⟩ :: rest) L K:=yM hg kk
end
theorem oQ {p:Prop} (h:p:=by first | exact bg (v:=true) rfl rfl vg rfl | exact bg (v:=false) rfl rfl vg rfl):p:=h
theorem zGf {p:Prop} (h:p:=by first | exact bg (v:=true) rfl rfl vg rfl | exact bg (v:=false) rfl rfl vg rfl | exact aDv rfl rfl):p:=h
theorem iX {p q:Prop} (k:q) (h:iK q->p:=by intro kk;first | (apply aEX;exact kk.h) | (apply aH1;exact kk.h) | (apply mv;exact kk.h) | (apply asg;exact kk.h) | (apply tx;exact nf;exact kk.h) | (apply aEV;exact kk.h) | (apply ayJ;exact iB;exact kk.h) | (apply aHa;exact biA;exact kk.h) | (apply aC2;exact xV;exact kk.h) | (apply aC7;exact nk;exact kk.h) | (apply aEb;exact xe;exact kk.h) | (apply aFo;exact avA;exact kk.h) | (apply azM;exact .extract rfl rfl nt0;exact kk.h) | (apply aA4;exact srA;exact kk.h) | (apply aDd;exact rfl;(first | (apply dA.zp;exact rfl) | exact .box mE);exact kk.h) | (apply aGs;exact rfl;(first | exact .alE | exact .alloc ZI.h);exact kk.h) | (apply ay8;(first | exact .qh rfl vg | exact .sv rfl vg);exact kk.h) | (apply aDH;exact cvA;exact kk.h) | (apply aCA;(first | exact .not rfl | exact .neg rfl);exact kk.h) | (apply aE9;(first | exact .field rfl SI.h rfl rfl | exact .field rfl (akJ SI.h cs) rfl pu);exact kk.h) | (apply aHm;exact rfl;(first | (apply dA.l1;exact rfl;decide;decide) | exact .l0 | (apply dA.l2;exact rfl;exact rfl;decide;decide) | (apply dA.l3;exact rfl;exact rfl;exact rfl;decide;decide) | (apply dA.l4;exact rfl;exact rfl;exact rfl;exact rfl;decide;decide));exact kk.h) | (apply rO;(first | exact .aEO rfl rfl rfl | exact .aHK rfl rfl rfl rfl | exact .aGz rfl rfl | exact .aAS rfl rfl rfl | exact .axa SI.h ZI.h rfl rfl | exact .bd rfl nes | exact .bd cs aho | exact .yR laE aho);exact kk.h) | (apply aBI;(first | exact .afd rfl | exact .aeJ rfl);exact kk.h) | (apply aCw;exact kk.h) | (apply aAe;exact kk.h) | (apply aFI;exact kk.h) | (apply aFN;exact kk.h) | (apply azE;exact kk.h) | (apply cr;exact rfl;exact vg;exact kk.h) | (apply fi;exact rfl;exact vg;exact kk.h) | (apply aES;exact kk.h) | (apply aJm;exact kk.h) | (apply aAm;exact kk.h) | (apply aAO;exact kk.h) | (apply aDt;decide;exact kk.h) | (apply aGi;exact zGf;exact kk.h) | (apply aGk;exact oQ;(exact .move _);exact kk.h) | (apply aCF;exact oQ;(exact iB);exact kk.h) | (apply azi;exact oQ;(exact biA);exact kk.h) | (apply aIu;exact oQ;(exact xV);exact kk.h) | (apply aIs;exact oQ;(exact nk);exact kk.h) | (apply aG9;exact oQ;(exact xe);exact kk.h) | (apply aza;exact oQ;(exact avA);exact kk.h) | (apply aH3;exact oQ;(exact .extract rfl rfl nt0);exact kk.h) | (apply aI6;exact oQ;exact srA;exact kk.h) | (apply aIw;exact oQ;(exact .assign _);exact kk.h) | (apply aBU;exact oQ;exact rfl;(first | (apply dA.zp;exact rfl) | exact .box mE);exact kk.h) | (apply azv;exact oQ;exact rfl;(first | exact .alE | exact .alloc ZI.h);exact kk.h) | (apply aAz;exact oQ;(first | exact .qh rfl vg | exact .sv rfl vg);exact kk.h) | (apply aBF;exact oQ;(exact cvA);exact kk.h) | (apply ayI;exact oQ;(first | exact .not rfl | exact .neg rfl);exact kk.h) | (apply aCy;exact oQ;(first | exact .field rfl SI.h rfl rfl | exact .field rfl (akJ SI.h cs) rfl pu);exact kk.h) | (apply aFV;exact oQ;exact rfl;(first | (apply dA.l1;exact rfl;decide;decide) | exact .l0 | (apply dA.l2;exact rfl;exact rfl;decide;decide) | (apply dA.l3;exact rfl;exact rfl;exact rfl;decide;decide) | (apply dA.l4;exact rfl;exact rfl;exact rfl;exact rfl;decide;decide));exact kk.h) | (apply aGC;exact oQ;(first | exact .axa SI.h ZI.h rfl rfl | exact .bd rfl nes | exact .bd cs aho | exact .yR laE aho);exact kk.h) | (apply aBT;exact oQ;(first | exact .afd rfl | exact .aeJ rfl);exact kk.h)):p:=h ⟨k⟩
theorem av {p q:Prop} (k:q) (h:iK q->p:=by intro hq;(iterate 1 refine iX ?_);exact hq.h):p:=h ⟨k⟩
theorem aP {p q:Prop} (k:q) (h:iK q->p:=by intro hq;(iterate 2 refine iX ?_);exact hq.h):p:=h ⟨k⟩
theorem aL {p q:Prop} (k:q) (h:iK q->p:=by intro hq;(iterate 3 refine iX ?_);exact hq.h):p:=h ⟨k⟩
theorem aA {p q:Prop} (k:q) (h:iK q->p:=by intro hq;(iterate 4 refine iX ?_);exact hq.h):p:=h ⟨k⟩
theorem ba {p q:Prop} (k:q) (h:iK q->p:=by intro hq;(iterate 5 refine iX ?_);exact hq.h):p:=h ⟨k⟩
theorem aD {p q:Prop} (k:q) (h:iK q->p:=by intro hq;(iterate 6 refine iX ?_);exact hq.h):p:=h ⟨k⟩
theorem aY {p q:Prop} (k:q) (h:iK q->p:=by intro hq;(iterate 7 refine iX ?_);exact hq.h):p:=h ⟨k⟩
theorem bn {p q:Prop} (k:q) (h:iK q->p:=by intro hq;(iterate 8 refine iX ?_);exact hq.h):p:=h ⟨k⟩
theorem bE {p q:Prop} (k:q) (h:iK q->p:=by intro hq;(iterate 9 refine iX ?_);exact hq.h):p:=h ⟨k⟩
theorem bI {p q:Prop} (k:q) (h:iK q->p:=by intro hq;(iterate 10 refine iX ?_);exact hq.h):p:=h ⟨k⟩
theorem bD {p q:Prop} (k:q) (h:iK q->p:=by intro hq;(iterate 11 refine iX ?_);exact hq.h):p:=h ⟨k⟩
theorem bF {p q:Prop} (k:q) (h:iK q->p:=by intro hq;(iterate 12 refine iX ?_);exact hq.h):p:=h ⟨k⟩
theorem dG {p q:Prop} (k:q) (h:iK q->p:=by intro hq;(iterate 13 refine iX ?_);exact hq.h):p:=h ⟨k⟩
theorem dH {p q:Prop} (k:q) (h:iK q->p:=by intro hq;(iterate 14 refine iX ?_);exact hq.h):p:=h ⟨k⟩
theorem iI {p q:Prop} (k:q) (h:iK q->p:=by intro hq;(iterate 15 refine iX ?_);exact hq.h):p:=h ⟨k⟩
theorem nZ {p q:Prop} (k:q) (h:iK q->p:=by intro hq;(iterate 16 refine iX ?_);exact hq.h):p:=h ⟨k⟩
theorem jw {p q:Prop} (k:q) (h:iK q->p:=by intro hq;(iterate 17 refine iX ?_);exact hq.h):p:=h ⟨k⟩
theorem oV {p q:Prop} (k:q) (h:iK q->p:=by intro hq;(iterate 18 refine iX ?_);exact hq.h):p:=h ⟨k⟩
theorem o4 {p q:Prop} (k:q) (h:iK q->p:=by intro hq;(iterate 19 refine iX ?_);exact hq.h):p:=h ⟨k⟩
theorem oz {p q:Prop} (k:q) (h:iK q->p:=by intro hq;(iterate 20 refine iX ?_);exact hq.h):p:=h ⟨k⟩
theorem aaA {p q:Prop} (k:q) (h:iK q->p:=by intro hq;(iterate 21 refine iX ?_);exact hq.h):p:=h ⟨k⟩
theorem anY {p q:Prop} (k:q) (h:iK q->p:=by intro hq;(iterate 22 refine iX ?_);exact hq.h):p:=h ⟨k⟩
theorem aa2 {p q:Prop} (k:q) (h:iK q->p:=by intro hq;(iterate 23 refine iX ?_);exact hq.h):p:=h ⟨k⟩
theorem aaw {p q:Prop} (k:q) (h:iK q->p:=by intro hq;(iterate 24 refine iX ?_);exact hq.h):p:=h ⟨k⟩
theorem we {p q:Prop} (k:q) (h:iK q->p:=by intro hq;(iterate 25 refine iX ?_);exact hq.h):p:=h ⟨k⟩
theorem ayO {p q:Prop} (k:q) (h:iK q->p:=by intro hq;(iterate 26 refine iX ?_);exact hq.h):p:=h ⟨k⟩
theorem aqN {p q:Prop} (k:q) (h:iK q->p:=by intro hq;(iterate 27 refine iX ?_);exact hq.h):p:=h ⟨k⟩
theorem amp {p q:Prop} (k:q) (h:iK q->p:=by intro hq;(iterate 28 refine iX ?_);exact hq.h):p:=h ⟨k⟩
theorem asN {p q:Prop} (k:q) (h:iK q->p:=by intro hq;(iterate 29 refine iX ?_);exact hq.h):p:=h ⟨k⟩
theorem au6 {p q:Prop} (k:q) (h:iK q->p:=by intro hq;(iterate 31 refine iX ?_);exact hq.h):p:=h ⟨k⟩
theorem ayr {p q:Prop} (k:q) (h:iK q->p:=by intro hq;(iterate 33 refine iX ?_);exact hq.h):p:=h ⟨k⟩
theorem atN {p q:Prop} (k:q) (h:iK q->p:=by intro hq;(iterate 34 refine iX ?_);exact hq.h):p:=h ⟨k⟩
theorem aJj {p q:Prop} (k:q) (h:iK q->p:=by intro hq;(iterate 49 refine iX ?_);exact hq.h):p:=h ⟨k⟩
theorem aDw {p q:Prop} (k:q) (h:iK q->p:=by intro hq;(iterate 54 refine iX ?_);exact hq.h):p:=h ⟨k⟩
theorem aFf {p q:Prop} (k:q) (h:iK q->p:=by intro hq;(iterate 57 refine iX ?_);exact hq.h):p:=h ⟨k⟩
def nr:Op->Bool
 | .move _=>true
 | .pick ..=>true
 | .binOp ..=>true
 | .load ..=>true
 | .fieldAddr ..=>true
 | .indexAddr ..=>true
 | .call ⟨.builtin .len,_,_⟩=>true
 | _=>false
theorem awT {op:Op} (h:nr op=true):wB op=false:=by
 unfold nr at h
 split at h<;>first | rfl | cases h
section
variable {P:Program} {H:bW} {ρ qS:Operand->LV}
theorem aE.adF {op:Op} {r:LV} (h:aE P H ρ op r) (hp:nr op=true) (hr:∀ x∈op.operands,qS x=ρ x):aE P H qS op r:=by
 cases h with
 | move x=>rw [<-hr x bS];exact .move x
 | pick hc =>
  rename_i c x y t
  have e1:=hr x bS
  have e2:=hr y bS
  have:=aE.pick (P:=P) (H:=H) (ρ:=qS) (x:=x) (y:=y) ((hr _ bS).trans hc)
  rw [e1,e2] at this
  exact this
 | bin hx hy h=>exact .bin ((hr _ bS).trans hx) ((hr _ bS).trans hy) h
 | sh hx hy h=>exact .sh ((hr _ bS).trans hx) ((hr _ bS).trans hy) h
 | beq hx hy hT=>exact .beq ((hr _ bS).trans hx) ((hr _ bS).trans hy) hT
 | bne hx hy hT=>exact .bne ((hr _ bS).trans hx) ((hr _ bS).trans hy) hT
 | zu hx hy h=>exact .zu ((hr _ bS).trans hx) ((hr _ bS).trans hy) h
 | eqS hx hy=>exact .eqS ((hr _ bS).trans hx) ((hr _ bS).trans hy)
 | eqN hx hy hT=>exact .eqN ((hr _ bS).trans hx) ((hr _ bS).trans hy) hT
 | aae hx hy hT=>exact .aae ((hr _ bS).trans hx) ((hr _ bS).trans hy) hT
 | zk hx hy hT hE hs hd=>exact .zk ((hr _ bS).trans hx) ((hr _ bS).trans hy) hT hE hs hd
 | zD hq hT sG=>exact .zD ((hr _ bS).trans hq) hT sG
 | aa9 hq hT hk=>exact .aa9 ((hr _ bS).trans hq) hT hk
 | zH hq hT hc=>exact .zH ((hr _ bS).trans hq) hT hc
 | fU hq hb hs hi hx sG hT=>exact .fU ((hr _ bS).trans hq) hb hs hi hx sG hT
 | abt hx hT hE hi h0 hm=>exact .abt ((hr _ bS).trans hx) hT hE ((hr _ bS).trans hi) h0 hm
 | abe hx hT hE hf hi h0 sG=>exact .abe ((hr _ bS).trans hx) hT hE hf ((hr _ bS).trans hi) h0 sG
 | nx hx hT hE hi h0 sG hc=>exact .nx ((hr _ bS).trans hx) hT hE ((hr _ bS).trans hi) h0 sG hc
 | wD hx hT hE hi h0 hn=>exact .wD ((hr _ bS).trans hx) hT hE ((hr _ bS).trans hi) h0 hn
 | z5 hx has hT=>exact .z5 ((hr _ lC).trans hx) has hT
 | aaT hx has hT=>exact .aaT ((hr _ lC).trans hx) has hT
 | aaB hx has hT=>exact .aaB ((hr _ lC).trans hx) has hT
 | aa0 hx has hT=>exact .aa0 ((hr _ lC).trans hx) has hT
 | _=>first | (cases hp;done) | (simp [nr] at hp;done)
end
def yo (n e:Nat):Array Bool:=((cW n).map fun i=>decide (i<e)).toArray
theorem apq {n e i:Nat} (h:i<n):(yo n e).getD i false=decide (i<e):=by
 unfold yo
 rw [dB]
 simp [h]
theorem ast (n e:Nat):(yo n e).size=n:=by simp [yo]
theorem aBQ {n e:Nat} {D:Array Bool} (hs:D.size=n) (h:∀ i,i<n->D.getD i false=decide (i<e)):D=yo n e:=by
 refine Array.ext (by rw [ast,hs]) fun i h1 h2=>?_
 have e1:=h i ae
 have e2:=apq (n:=n) (e:=e) (i:=i) ae
 rw [dB,oL h1] at e1
 rw [dB,oL h2] at e2
 simp only [zU] at e1 e2
 rw [e1,e2]
def ajK (ops:Array Oper) (s e:Nat):Bool :=
 decide (s<=e) && decide (e<=ops.size) && ((cW ops.size).all fun i=>(jN (ops.getD i default)).all (·<i)) &&
 ((cW e).all fun i=>decide (i<s) || nr (ops.getD i default).op) &&
 ((cW e).all fun i=>(cW e).all fun j=>decide (i<s) || decide (j<s) || i==j || aaG ops (bef ops.toList []) i j) &&
 ((cW ops.size).all fun i=>decide (i<e) || (cW e).all fun j=>decide (j<s) || ((bef ops.toList []).getD i 0).testBit j)
section
variable {P:Program} {ops:Array Oper}
theorem apW {K:St->Prop}:∀ (n:Nat) (D:Array Bool) (L:St),jl P ops n D L K->jl P ops (n+1) D L K
 | 0,D,L,h=>⟨fun _=>h.2,fun i hi=>by rw [h.1] at hi;cases hi⟩
 | n+1,D,L,h=>⟨h.1,fun i hi=>by
  obtain⟨o,L',h1,h2,h3⟩:=h.2 i hi
  exact⟨o,L',h1,h2,apW n _ _ h3⟩⟩
open Classical in
noncomputable def u6 (ops:Array Oper) (g:Nat->St) (s e:Nat) (D:Array Bool) (t:Nat):LV :=
 if ∃ i o,s<=i/\i<e/\D.getD i false=true/\ops[i]?=some o/\o.dst=some t then(g e).slot t else(g s).slot t
theorem ay2 {fuel:Nat} {K:St->Prop} {L:St} {D:Array Bool} (s e:Nat) (l:List Oper) (hD:D=yo ops.size s) (hl:l=(ops.toList.drop s).take (e-s)) (fq:ajK ops s e=true)
  (h:opsL P true ops l L (fun L'=>jl P ops fuel (yo ops.size e) L' K)):jl P ops (fuel+(e-s)) D L K:=by
 unfold ajK at fq
 simp only [jq,decide_eq_true_eq,oR,pI,ob] at fq
 obtain⟨⟨⟨⟨⟨hse,zi⟩,h1⟩,h2⟩,h3⟩,h4⟩:=fq
 have g7:∀ i o,ops[i]?=some o->ops.getD i default=o:=fun i o h=>by rw [dB,h];rfl
 have nQ:∀ i o,ops[i]?=some o->i<ops.size:=fun i o h=>(mN.1 h).1
 have xm:∀ i,i<ops.size->∃ o,ops[i]?=some o:=fun i h=>⟨_,oL h⟩
 have o7:=ad1 ops ops.toList [] (fun i=>by simp) (fun i t h=>by simp at h)
 have ve:∀ i o,ops[i]?=some o->∀ j∈jN o,j<i:=fun i o h j hj=>h1 i (nQ i o h) j (by rw [g7 i o h];exact hj)
 have aom:∀ i o,ops[i]?=some o->s<=i->i<e->nr o.op=true:=fun i o h a b=>by
  rcases h2 i b with c | c
  ·omega
  ·rw [g7 i o h] at c;exact c
 have vI:∀ i,i<ops.size->e<=i->∀ j,s<=j->j<e->nu ops j i:=fun i hi a j b c=>by
  rcases h4 i hi with q | q
  ·omega
  ·rcases q j c with q | q
   ·omega
   ·exact o7 i j q
 have uE:∀ i j oi oj d,ops[i]?=some oi->ops[j]?=some oj->s<=i->i<e->s<=j->j<e->i≠j->oj.dst=some d->oi.dst≠some d/\(d∈oi.looksAt ops->if j<i then nu ops j i else nu ops i j):=by
  intro i j oi oj d hi hj si ei sj ej aX oJ
  rcases h3 i ei j ej with((q | q) | q) | q
  ·omega
  ·omega
  ·exact absurd (by simpa using q) aX
  ·unfold aaG at q
   rw [g7 j oj hj,g7 i oi hi,oJ] at q
   simp only [jq,bne_iff_ne,ne_eq,ob,wY] at q
   refine⟨q.1,fun se=>?_⟩
   rcases q.2 with h' | h'
   ·rw [oX.2 se] at h';cases h'
   ·split at h'<;>rename_i bM
    ·rw [if_pos bM];exact o7 i j h'
    ·rw [if_neg bM];exact o7 j i h'
 obtain⟨f,f0,fs,fK⟩:=aaO _ _ h
 have hlen:l.length=e-s:=by rw [hl];simp;omega
 obtain⟨g,hg⟩:∃ g:Nat->St,g=fun i=>f (i-s):=⟨_,rfl⟩
 have gs0:g s=L:=by rw [hg];simp only [pB];exact f0
 have ge0:g e=f l.length:=by rw [hg,hlen]
 have gst:∀ i o,ops[i]?=some o->s<=i->i<e->Step P true ops o (g i) (g (i+1)):=fun i o h a b=>by
  have:=fs (i-s) o (by
   rw [hl,ant,if_pos ae,sA,show s+(i-s)=i by omega]
   simpa using h)
  rw [hg]
  simp only
  rw [show i+1-s=i-s+1 by omega]
  exact this
 rw [<-ge0] at fK
 have sQ:∀ i o,ops[i]?=some o->s<=i->i<e->(g i).heap.le (g (i+1)).heap/\∀ t,o.dst≠some t->(g (i+1)).slot t=(g i).slot t:=fun i o h a b=>anT (awT (aom i o h a b)) (gst i o h a b)
 have hle:∀ i j,s<=i->i<=j->j<=e->(g i).heap.le (g j).heap:=by
  intro i j si rM
  induction j with
  | zero =>
   intro _
   obtain rfl:i=0:=by omega
   exact bW.le_refl _
  | succ j ih =>
   intro l6
   by_cases c:i=j+1
   ·subst c;exact bW.le_refl _
   ·obtain⟨o,ho⟩:=xm j ae
    exact bW.le_trans (ih ae ae) (sQ j o ho ae ae).1
 have hconst:∀ i j t,s<=i->i<=j->j<=e->(∀ k o,i<=k->k<j->ops[k]?=some o->o.dst≠some t)->(g j).slot t=(g i).slot t:=by
  intro i j t si rM
  induction j with
  | zero =>
   intro _ _
   obtain rfl:i=0:=by omega
   rfl
  | succ j ih =>
   intro l6 hk
   by_cases c:i=j+1
   ·subst c;rfl
   ·obtain⟨o,ho⟩:=xm j ae
    rw [(sQ j o ho ae ae).2 t (hk j o ae ae ho)]
    exact ih ae ae (fun k o a b=>hk k o a ae)
 have ad9:∀ i o t,ops[i]?=some o->s<=i->i<e->o.dst=some t->(g e).slot t=(g (i+1)).slot t:=fun i o t ho si ei kJ =>
  hconst (i+1) e t ae ae (bp _) (fun k ok a b hk q=>(uE i k o ok t ho hk si ei ae b ae q).1 kJ)
 let closed:Array Bool->Prop:=fun D=>∀ i o,ops[i]?=some o->D.getD i false=true->∀ j∈jN o,D.getD j false=true
 have yy:∀ D,closed D->∀ j i,nu ops j i->(∀ o,ops[i]?=some o->∀ k∈jN o,D.getD k false=true)->D.getD j false=true:=by
  intro D hD j i hA
  induction hA with
  | @one i o ho h=>intro hr;exact hr o ho _ h
  | @step k i o hA ho hk ih=>intro hr;exact ih (fun o' lX k' mH=>hD k o' lX (hr o ho k hk) k' mH)
 have main:∀ (n:Nat) (D:Array Bool) (L:St),D.size=ops.size->(∀ i,i<s->D.getD i false=true)->(∀ i,e<=i->D.getD i false=false)->closed D->(∀ t,L.slot t=u6 ops g s e D t) ->
   (L.heap=(g e).heap\/(L.heap=(g s).heap/\∀ i,s<=i->i<e->D.getD i false=true->(g (i+1)).heap=(g i).heap))->(cW e).countP (fun i=>!D.getD i false)<=n->jl P ops (fuel+n) D L K:=by
  intro n
  induction n with
  | zero =>
   intro D L bJ cd iC jy kA hhp hct
   have eE:∀ i,i<e->D.getD i false=true:=fun i hi=>by
    have:(cW e).countP (fun i=>!D.getD i false)=0:=by omega
    have:=at1.1 this i (pI.2 hi)
    simpa using this
   have eD:D=yo ops.size e:=aBQ bJ fun i hi=>by
    rcases gM i e with c | c
    ·rw [eE i c,decide_eq_true c]
    ·rw [iC i c,decide_eq_false ae]
   have eL:L=g e:=by
    have q1:L.slot=(g e).slot:=by
     funext t
     rw [kA t]
     unfold u6
     split
     ·rfl
     ·rename_i mX
      exact(hconst s e t (bp _) hse (bp _) (fun k o a b hk q=>mX ⟨k,o,a,b,eE k b,hk,q⟩)).symm
    have q2:L.heap=(g e).heap:=by
     rcases hhp with q | ⟨q,hq⟩
     ·exact q
     ·rw [q]
      have:∀ m,s<=m->m<=e->(g m).heap=(g s).heap:=by
       intro m
       induction m with
       | zero =>
        intro a _
        obtain rfl:s=0:=by omega
        rfl
       | succ m ih =>
        intro a b
        by_cases c:s=m+1
        ·rw [c]
        ·rw [hq m ae ae (eE m ae)];exact ih ae ae
      exact(this e hse (bp _)).symm
    cases L;cases kj:g e
    rw [kj] at q1 q2
    simp only at q1 q2
    rw [q1,q2]
   rw [eD,eL];exact fK
  | succ n ih =>
   intro D L bJ cd iC jy kA hhp hct
   by_cases eE:∀ i,i<e->D.getD i false=true
   ·have h0:(cW e).countP (fun i=>!D.getD i false)=0:=at1.2 fun i hi=>by rw [eE i (pI.1 hi)];decide
    exact apW _ _ _ (ih D L bJ cd iC jy kA hhp ae)
   ·have su:∀ i,i∈Region.ready .any ops D->s<=i/\i<e:=fun i hi=>by
     obtain⟨o,sL,qQ,p3'⟩:=(pO bJ).1 hi
     have bM:=nQ i o sL
     have sK:D.getD i false=false:=by rw [uS ae false true];exact qQ
     refine⟨?_,?_⟩
     ·rcases gM i s with c | c
      ·rw [cd i c] at sK;cases sK
      ·exact c
     ·rcases gM i e with c | c
      ·exact c
      ·exfalso
       refine eE fun j hj=>?_
       rcases gM j s with d | d
       ·exact cd j d
       ·exact yy D jy j i (vI i bM c j d hj) (fun o' lX k hk=>by rw [sL] at lX;cases lX;exact p3' k hk)
    refine⟨fun hr=>?_,fun i hi=>?_⟩
    ·exfalso
     refine eE fun i=>?_
     induction i using abL with
     | _ i ihh =>
      intro hie
      cases hc:D.getD i false with
      | true=>rfl
      | false =>
       obtain⟨o,ho⟩:=xm i ae
       have:i∈Region.ready .any ops D:=(pO bJ).2 ⟨o,ho,by rw [uS ae true false];exact hc,fun j hj=>by
        have:=ve i o ho j hj
        exact ihh j this ae⟩
       rw [hr] at this;cases this
    ·obtain⟨si,ei⟩:=su i hi
     obtain⟨o,ho,aa5,wO⟩:=(pO bJ).1 hi
     have sK:D.getD i false=false:=by rw [uS ae false true];exact aa5
     have iY:∀ k,(D.setIfInBounds i true).getD k false=true↔k=i\/D.getD k false=true:=fun k=>by
      by_cases c:i=k
      ·subst c
       rw [dB,nT ae];simp
      ·rw [dB,jP c,<-dB]
       constructor
       ·exact fun h=>.inr h
       ·rintro(h | h)
        ·exact absurd h.symm c
        ·exact h
     have acj:closed (D.setIfInBounds i true):=fun k ok hk fc j hj=>by
      rcases(iY k).1 fc with rfl | h
      ·rw [ho] at hk;cases hk
       exact(iY j).2 (.inr (wO j hj))
      ·exact(iY j).2 (.inr (jy k ok hk h j hj))
     have abS:∀ o',ops[i]?=some o'->∀ k∈jN o',D.getD k false=true:=fun o' lX k hk=>(by rw [ho] at lX;cases lX;exact wO k hk)
     have adu:∀ t,t∈o.looksAt ops->(g i).slot t=L.slot t:=by
      intro t ht
      rw [kA t]
      by_cases hex:∃ j oj,s<=j/\j<e/\ops[j]?=some oj/\oj.dst=some t
      ·obtain⟨j,oj,sj,ej,hj,oJ⟩:=hex
       have yI:∀ k ok,s<=k->k<e->ops[k]?=some ok->ok.dst=some t->k=j:=fun k ok sk ek hk lg =>
        o8 fun aX=>(uE k j ok oj t hk hj sk ek sj ej aX oJ).1 lg
       have aqD:(∀ hh:D.getD j false=true,False)->u6 ops g s e D t=(g s).slot t:=fun hh=>by
        unfold u6
        rw [if_neg]
        rintro⟨k,ok,sk,ek,fc,hk,lg⟩
        have:=yI k ok sk ek hk lg
        subst this
        exact hh fc
       by_cases kQ:j=i
       ·subst kQ
        rw [hconst s j t (bp _) si ae (fun k ok a b hk q=>by have:=yI k ok a ae hk q;omega),aqD (fun hh=>by rw [sK] at hh;cases hh)]
       ·have hp:=(uE i j o oj t ho hj si ei sj ej (Ne.symm kQ) oJ).2 ht
        by_cases bM:j<i
        ·rw [if_pos bM] at hp
         have w8:=yy D jy j i hp abS
         have e2:u6 ops g s e D t=(g e).slot t:=by
          unfold u6
          rw [if_pos ⟨j,oj,sj,ej,w8,hj,oJ⟩]
         rw [e2,ad9 j oj t hj sj ej oJ]
         exact hconst (j+1) i t ae ae ae (fun k ok a b hk q=>by have:=yI k ok ae ae hk q;omega)
        ·rw [if_neg bM] at hp
         rw [hconst s i t (bp _) si ae (fun k ok a b hk q=>by have:=yI k ok a ae hk q;omega),aqD (fun hh=>by
          have:=yy D jy i j hp (fun o' lX k' mH=>jy j o' lX hh k' mH)
          rw [sK] at this;cases this)]
      ·rw [hconst s i t (bp _) si ae (fun k ok a b hk q=>hex ⟨k,ok,a,ae,hk,q⟩)]
       unfold u6
       rw [if_neg]
       rintro⟨k,ok,sk,ek,fc,hk,lg⟩
       exact hex ⟨k,ok,sk,ek,hk,lg⟩
     have afN:∀ t,u6 ops g s e (D.setIfInBounds i true) t=if o.dst=some t then(g (i+1)).slot t else L.slot t:=by
      intro t
      rw [kA t]
      by_cases kJ:o.dst=some t
      ·rw [if_pos kJ]
       unfold u6
       rw [if_pos ⟨i,o,si,ei,(iY i).2 (.inl rfl),ho,kJ⟩]
       exact ad9 i o t ho si ei kJ
      ·rw [if_neg kJ]
       unfold u6
       congr 1
       apply propext
       constructor
       ·rintro⟨k,ok,sk,ek,fc,hk,lg⟩
        rcases(iY k).1 fc with rfl | h
        ·rw [ho] at hk;cases hk;exact absurd lg kJ
        ·exact⟨k,ok,sk,ek,h,hk,lg⟩
       ·rintro⟨k,ok,sk,ek,fc,hk,lg⟩
        exact⟨k,ok,sk,ek,(iY k).2 (.inr fc),hk,lg⟩
     have agu:∀ res,dY ops (g i) o res->dY ops L o res:=fun res hgd=>by
      unfold dY at hgd ⊢
      cases hh:o.guard with
      | none=>rw [hh] at hgd;exact hgd
      | some pr =>
       obtain⟨j,want⟩:=pr
       rw [hh] at hgd
       obtain⟨d,n9,q'⟩:=hgd
       have e1:(g i).slot d=L.slot d:=adu d (by unfold Oper.looksAt;rw [hh];simp [n9])
       refine⟨d,n9,?_⟩
       show (∃ b,L.slot d=_/\_)\/(L.slot d=_/\_)
       rw [<-e1]
       exact q'
     have mS:∀ (r:LV) (H1:bW),(∀ t,o.dst=some t->(g (i+1)).slot t=r)->∀ t,(⟨(L.put o.dst r).slot,H1⟩:St).slot t=u6 ops g s e (D.setIfInBounds i true) t:=fun r H1 hr t=>by
      rw [afN t]
      show (L.put o.dst r).slot t=_
      cases hd:o.dst with
      | none=>rw [if_neg aT];rfl
      | some d =>
       rw [g8]
       by_cases c:t=d
       ·subst c
        rw [if_pos rfl,if_pos rfl,hr t hd]
       ·rw [if_neg c,if_neg (fun q=>c (by cases q;rfl))]
     have apk:(cW e).countP (fun k=>!(D.setIfInBounds i true).getD k false)<=n:=by
      have:(cW e).countP (fun k=>!(D.setIfInBounds i true).getD k false)<(cW e).countP (fun k=>!D.getD k false):=by
       apply akl
       ·intro k _ hk
        cases hc:D.getD k false with
        | false=>rfl
        | true=>rw [(iY k).2 (.inr hc)] at hk;cases hk
       ·exact⟨i,pI.2 ei,by rw [sK];rfl,by rw [(iY i).2 (.inl rfl)];rfl⟩
      omega
     have ab4:∀ L',Step P false ops o L L'->(∀ t,L'.slot t=u6 ops g s e (D.setIfInBounds i true) t)->(L'.heap=(g e).heap\/(L'.heap=(g s).heap/\∀ k,s<=k->k<e->(D.setIfInBounds i true).getD k false=true->(g (k+1)).heap=(g k).heap)) ->
       ∃ o L',ops[i]?=some o/\Step P false ops o L L'/\jl P ops (fuel+n) (D.setIfInBounds i true) L' K:=fun L' dC l8 hh' =>
      ⟨o,L',ho,dC,ih _ L' (by simpa using bJ) (fun k hk=>(iY k).2 (.inr (cd k hk))) (fun k hk=>by
       cases hc:(D.setIfInBounds i true).getD k false with
       | false=>rfl
       | true =>
        rcases(iY k).1 hc with rfl | q
        ·omega
        ·rw [iC k hk] at q;cases q) acj l8 hh' apk⟩
     have gv:=aom i o ho si ei
     cases gst i o ho si ei with
     | skip hg' h' =>
      refine ab4 (L.put o.dst (.bf [])) (.skip (agu false hg') rfl) (fun t=>?_) ?_
      ·have:=mS (.bf []) L.heap (fun t ht=>by rw [h',ht,g8,if_pos rfl]) t
       exact this
      ·rw [lH]
       rcases hhp with q | ⟨q,hq⟩
       ·exact .inl q
       ·refine .inr ⟨q,fun k sk ek hk=>?_⟩
        rcases(iY k).1 hk with rfl | hk
        ·rw [h',lH]
        ·exact hq k sk ek hk
     | @val r fr H1 hg' hH dO mQ h' =>
      obtain⟨dst,op,ty,pos,after,gd⟩:=o
      have uI:H1=(g (i+1)).heap:=by rw [h']
      have ado:H1.le (g e).heap:=by rw [uI];exact hle (i+1) e ae ae (bp _)
      cases mQ with
      | alloc ha=>cases ha<;>cases gv
      | call hc=>cases hc<;>cases gv
      | pure hpp =>
       have gG:∀ x∈op.operands,L.ev x=(g i).ev x:=by
        intro x hx
        cases x with
        | tmp t =>
         have ht:t∈Oper.looksAt ops ⟨dst,op,ty,pos,after,gd⟩:=by
          unfold Oper.looksAt
          simp only [oy,yi]
          exact .inl ⟨.tmp t,by simpa using hx,rfl⟩
         exact(adu t ht).symm
        | const v=>rfl
        | func f=>rfl
        | global f=>rfl
       have aDn:=aE.adF (aE.le ado hpp) gv gG
       have hLe:L.heap.le (g e).heap:=by
        rcases hhp with q | ⟨q,_⟩
        ·rw [q];exact bW.le_refl _
        ·rw [q];exact hle s e (bp _) hse (bp _)
       refine ab4 ⟨(L.put dst r).slot,(g e).heap⟩ (.val (fr:=[]) (agu true hg') hLe (fun _ _ hh=>by cases hh) (.pure aDn) rfl) (mS r _ (fun t ht=>?_)) (.inl rfl)
       rw [h']
       show ((g i).put dst r).slot t=r
       have ht:dst=some t:=ht
       rw [ht,g8,if_pos rfl]
     | st hg' rn =>
      obtain⟨dst,op,ty,pos,after,gd⟩:=o
      have:=awT gv
      rw [rn.tail] at this;cases this
     | stM gX _ _=>cases gX
 have bJ:D.size=ops.size:=by rw [hD];exact ast _ _
 have hDg:∀ i,D.getD i false=true↔i<s:=fun i=>by
  rcases gM i ops.size with c | c
  ·rw [hD,apq c,decide_eq_true_eq]
  ·constructor
   ·intro q
    rw [dB,Array.getElem?_eq_none ae] at q
    cases q
   ·intro q;omega
 refine main (e-s) D L bJ (fun i hi=>(hDg i).2 hi) (fun i hi=>?_) (fun i o ho hi j hj=>(hDg j).2 (by have:=ve i o ho j hj;have:=(hDg i).1 hi;omega)) (fun t=>?_) (.inr ⟨by rw [gs0],fun i si _ hi=>by have:=(hDg i).1 hi;omega⟩) ?_
 ·cases hc:D.getD i false with
  | false=>rfl
  | true=>have:=(hDg i).1 hc;omega
 ·unfold u6
  rw [if_neg,gs0]
  rintro⟨k,o,sk,_,hk,_⟩
  have:=(hDg k).1 hk
  omega
 ·have:∀ m,(cW m).countP (fun i=>!D.getD i false)<=m-s:=by
   intro m
   induction m with
   | zero=>simp
   | succ m ih =>
    rw [List.range_succ,List.countP_append]
    have yH:List.countP (fun i=>!D.getD i false) [m]=if D.getD m false=true then 0 else 1:=by
     rw [List.countP_cons,List.countP_nil,fw]
     cases hc:D.getD m false<;>rfl
    rw [yH]
    split
    ·omega
    ·rename_i hc
     have:¬m<s:=fun q=>hc ((hDg m).2 q)
     omega
  exact this e
theorem anW {m:Nat} {K:St->Prop} {L:St} {D:Array Bool} {l0:List Oper} (s e fuel:Nat) (hm:m=fuel+(e-s)) (hD:D=yo l0.toArray.size s) (fq:ajK l0.toArray s e=true)
  (h:opsL P true l0.toArray ((l0.drop s).take (e-s)) L (fun L'=>jl P l0.toArray fuel (yo l0.toArray.size e) L' K)):jl P l0.toArray m D L K:=by
 subst hm
 exact ay2 s e _ hD rfl fq h
end
def afG:Op->Bool
 | .move _=>true
 | .binOp ..=>true
 | .fieldAddr ..=>true
 | .indexAddr ..=>true
 | .call ⟨.builtin .len,_,_⟩=>true
 | _=>false
def yr:Op->Bool
 | .store ..=>true
 | .call ⟨.value (.func _),_,_⟩=>true
 | op=>nr op
theorem aDy {op:Op} (h:afG op=true):nr op=true:=by
 unfold afG at h
 split at h<;>first | rfl | cases h
theorem aE.aET {P:Program} {H H':bW} {ρ:Operand->LV} {op:Op} {r:LV} (h:aE P H ρ op r) (hp:afG op=true):aE P H' ρ op r:=by
 cases h with
 | move x=>exact .move x
 | bin hx hy h=>exact .bin hx hy h
 | sh hx hy h=>exact .sh hx hy h
 | beq hx hy hT=>exact .beq hx hy hT
 | bne hx hy hT=>exact .bne hx hy hT
 | zu hx hy h=>exact .zu hx hy h
 | eqS hx hy=>exact .eqS hx hy
 | eqN hx hy hT=>exact .eqN hx hy hT
 | aae hx hy hT=>exact .aae hx hy hT
 | zk hx hy hT hE hs hd=>exact .zk hx hy hT hE hs hd
 | zD hq hT sG=>exact .zD hq hT sG
 | aa9 hq hT hk=>exact .aa9 hq hT hk
 | abt hx hT hE hi h0 hm=>exact .abt hx hT hE hi h0 hm
 | abe hx hT hE hf hi h0 sG=>exact .abe hx hT hE hf hi h0 sG
 | nx hx hT hE hi h0 sG hc=>exact .nx hx hT hE hi h0 sG hc
 | wD hx hT hE hi h0 hn=>exact .wD hx hT hE hi h0 hn
 | z5 hx has hT=>exact .z5 hx has hT
 | aaT hx has hT=>exact .aaT hx has hT
 | aaB hx has hT=>exact .aaB hx has hT
 | aa0 hx has hT=>exact .aa0 hx has hT
 | _=>first | (cases hp;done) | (simp [afG] at hp;done)
theorem put_comm (L:St) {d e:Nat} (h:d≠e) (v r:LV):(L.put (some d) v).put (some e) r=(L.put (some e) r).put (some d) v:=by
 have:∀ t,((L.put (some d) v).put (some e) r).slot t=((L.put (some e) r).put (some d) v).slot t:=fun t=>by
  rw [g8,g8,g8,g8]
  by_cases h1:t=e
  ·rw [if_pos h1,if_neg ae,if_pos h1]
  ·rw [if_neg h1,if_neg h1]
 exact congrArg (fun f=>St.mk f L.heap) (funext this)
theorem s6 (L:St) {d:Nat} {e:Option Nat} (h:e≠some d) (v r:LV):(L.put (some d) v).put e r=(L.put e r).put (some d) v:=by
 cases e with
 | none=>rfl
 | some e=>exact put_comm L (fun q=>h (by rw [q])) v r
section
variable {P:Program} {ops:Array Oper}
theorem atP {L:St} {d:Nat} {v:LV} {o:Oper} (h:d∉o.looksAt ops):∀ x∈o.op.operands,(L.put (some d) v).ev x=L.ev x:=fun x hx=>by
 cases x with
 | tmp t =>
  have ht:t∈o.looksAt ops:=by
   unfold Oper.looksAt
   simp only [oy,yi]
   exact .inl ⟨.tmp t,by simpa using hx,rfl⟩
  show (L.put (some d) v).slot t=L.slot t
  rw [g8,if_neg (fun q=>h (by rw [<-q];exact ht))]
 | const v=>rfl
 | func f=>rfl
 | global f=>rfl
theorem tF {L:St} {d:Nat} {v:LV} {o:Oper} {res:Bool} (h:d∉o.looksAt ops) (hg:dY ops (L.put (some d) v) o res):dY ops L o res:=by
 unfold dY at hg ⊢
 cases hh:o.guard with
 | none=>rw [hh] at hg;exact hg
 | some pr =>
  obtain⟨j,want⟩:=pr
  rw [hh] at hg
  obtain⟨t,n9,q'⟩:=hg
  have aX:t≠d:=fun q=>h (by rw [<-q];unfold Oper.looksAt;rw [hh];simp [n9])
  have e1:(L.put (some d) v).slot t=L.slot t:=by rw [g8,if_neg aX]
  refine⟨t,n9,?_⟩
  show (∃ b,L.slot t=_/\_)\/(L.slot t=_/\_)
  rw [<-e1]
  exact q'
theorem yh {f:Operand} {xs:Array Operand} {uC:Array TypeId} {x:Operand} (h:x∈xs.toList):x∈(Op.call ⟨.value f,xs,uC⟩).operands:=by
 have:=afH.1 h
 simp [Op.operands,Call.operands,this]
theorem aFu {L L2:St} {d:Nat} {v:LV} {o:Oper} (hk:yr o.op=true) (hl:d∉o.looksAt ops) (hd:o.dst≠some d) (h:Step P false ops o (L.put (some d) v) L2) :
  ∃ L1,Step P false ops o L L1/\L2=L1.put (some d) v/\∀ t,o.dst≠some t->L1.slot t=L.slot t:=by
 have gG:=atP (L:=L) (v:=v) hl
 have kA:∀ (M:St) (r:LV) t,M.slot t=L.slot t->o.dst≠some t->(M.put o.dst r).slot t=L.slot t:=fun M r t hM aX=>by
  cases hh:o.dst with
  | none=>exact hM
  | some e=>rw [g8,if_neg (fun q=>aX (by rw [hh,q]))];exact hM
 cases h with
 | skip hg hL=>exact⟨L.put o.dst (.bf []),.skip (tF hl hg) rfl,by rw [hL,s6 L hd],fun t ht=>kA L _ t rfl ht⟩
 | @val r fr H1 hg hle dO mQ hL =>
  obtain⟨dst,op,ty,pos,after,gd⟩:=o
  have agj:∀ x∈op.operands,L.ev x=(L.put (some d) v).ev x:=fun x hx=>(gG x hx).symm
  have acY:mP P H1 L.ev (dst.getD 0) op r fr:=by
   cases mQ with
   | pure hp =>
    by_cases gv:nr op=true
    ·exact .pure (hp.adF gv agj)
    ·cases hp with
     | aa3 hf qG hb hn he hx hr h1 h2 =>
      refine .pure (.aa3 hf qG hb hn he ?_ hr h1 h2)
      rw [<-hx]
      exact uU fun x wy=>agj x (yh wy)
     | _=>first | (exfalso;exact gv rfl) | (exfalso;revert hk gv;simp [yr,nr])
   | alloc ha=>cases ha<;>(exfalso;revert hk;simp [yr,nr])
   | call hc =>
    cases hc with
    | func ha hkk hlen n5 =>
     refine .call (.func ?_ hkk hlen n5)
     rw [show (_:Array Operand).toList.map L.ev=_ from uU fun x wy=>agj x (yh wy)]
     exact ha
    | dk=>exfalso;revert hk;simp [yr,nr]
    | mk=>exfalso;revert hk;simp [yr,nr]
  refine⟨⟨(L.put dst r).slot,H1⟩,.val (tF hl hg) hle dO acY rfl,?_,fun t ht=>kA L r t rfl ht⟩
  rw [hL]
  have:=s6 L hd v r
  exact congrArg (fun M=>St.mk (St.slot M) H1) this
 | st hg rn =>
  obtain⟨dst,op,ty,pos,after,gd⟩:=o
  cases rn with
  | store hp hb hs hm hi hy mS hT aX =>
   rename_i T p x b sz i o' blk y y'
   have e1:=gG p bS
   have e2:=gG x bS
   rw [e1] at hp
   rw [e2] at mS hT aX
   refine⟨_,.st (tF hl hg) (.store hp hb hs hm hi hy mS hT aX),?_,fun t ht=>?_⟩
   ·exact s6 (L.bO b _) hd v .any
   ·exact kA (L.bO b _) .any t rfl ht
  | _=>exfalso;revert hk;simp [yr,nr]
 | stM gX hg kK =>
  obtain⟨dst,op,ty,pos,after,gd⟩:=o
  cases kK with
  | call hb hm hp ha hn hkk pQ kO =>
   rename_i f xs uC args r b blk blk'
   have em:xs.toList.map (L.put (some d) v).ev=xs.toList.map L.ev:=uU fun x wy=>gG x (yh wy)
   rw [em] at ha hn
   refine⟨_,.stM gX (tF hl hg) (.call hb hm hp ha hn hkk pQ kO),?_,fun t ht=>?_⟩
   ·exact s6 (L.bO b _) hd v _
   ·exact kA (L.bO b _) _ t rfl ht
  | aiS=>exfalso;revert hk;simp [yr,nr]
  | af6=>exfalso;revert hk;simp [yr,nr]
  | ovl hf qG hb hn he ht hE hx hy vk h1 h2 dM =>
   rw [gG _ (yh aT)] at hx
   rw [gG _ (yh aT)] at hy
   refine⟨_,.stM gX (tF hl hg) (.ovl hf qG hb hn he ht hE hx hy vk h1 h2 dM),?_,fun t ht=>?_⟩
   ·exact s6 L hd v _
   ·exact kA L _ t rfl ht
def aoP (ops:Array Oper) (i:Nat) (D:Array Bool):Bool :=
 D.size==ops.size && !D.getD i true && (jN (ops.getD i default)).all (fun j=>D.getD j false) && (ops.getD i default).guard.isNone && afG (ops.getD i default).op &&
 (cW ops.size).all fun j=>j==i || D.getD j true || (yr (ops.getD j default).op && ((ops.getD j default).dst != (ops.getD i default).dst) &&
  (match (ops.getD i default).dst with | some d=>!((ops.getD j default).looksAt ops).contains d || (jN (ops.getD j default)).contains i | none=>false) &&
  (match (ops.getD j default).dst with | some e=>!((ops.getD i default).looksAt ops).contains e | none=>true))
theorem aeN {m:Nat} {K:St->Prop} {L:St} {D:Array Bool} {d:Nat} {v:LV} (i:Nat) {o:Oper} (ho:ops[i]?=some o) (adr:o.dst=some d) (fq:aoP ops i D=true) (hv:aE P L.heap L.ev o.op v)
  (h:jl P ops m (D.setIfInBounds i true) (L.put (some d) v) K):jl P ops (m+1) D L K:=by
 have g7:∀ i o,ops[i]?=some o->ops.getD i default=o:=fun i o h=>by rw [dB,h];rfl
 have su:i<ops.size:=(mN.1 ho).1
 let C:Array Bool->Prop:=fun D=>D.size=ops.size/\D.getD i false=false/\(∀ j∈jN o,D.getD j false=true)/\∀ j oj,ops[j]?=some oj->j≠i->D.getD j false=false ->
  yr oj.op=true/\oj.dst≠some d/\(d∈oj.looksAt ops->i∈jN oj)/\∀ e,oj.dst=some e->e∉o.looksAt ops
 unfold aoP at fq
 rw [g7 i o ho,adr] at fq
 simp only [jq,oR,pI,ob,beq_iff_eq,wY,wW,bne_iff_ne,ne_eq] at fq
 obtain⟨⟨⟨⟨⟨bJ,sK⟩,wO⟩,hgd⟩,aiX⟩,eE⟩:=fq
 have hC:C D:=by
  refine⟨bJ,by rw [uS ae false true];exact sK,wO,fun j oj hj aX w8=>?_⟩
  have hjl:j<ops.size:=(mN.1 hj).1
  have:=eE j hjl
  rw [g7 j oj hj] at this
  rcases this with(q | q) | q
  ·exact absurd q aX
  ·rw [uS ae true false,w8] at q;cases q
  ·obtain⟨⟨⟨q1,q2⟩,q3⟩,q4⟩:=q
   refine⟨q1,q2,fun hm=>?_,fun e he hm=>?_⟩
   ·rcases q3 with q | q
    ·rw [oX.2 hm] at q;cases q
    ·exact oX.1 q
   ·rw [he] at q4
    simp only [wY] at q4
    rw [oX.2 hm] at q4;cases q4
 have agl:∀ L:St,aE P L.heap L.ev o.op v->Step P false ops o L (L.put (some d) v):=fun L hv=>by
  refine .val (fr:=[]) (H1:=L.heap) (r:=v) (by unfold dY;rw [hgd]) (bW.le_refl _) (fun _ _ hh=>by cases hh) (.pure hv) ?_
  rw [adr];rfl
 clear bJ sK wO eE
 have main:∀ (n:Nat) (D:Array Bool) (L:St),C D->aE P L.heap L.ev o.op v->jl P ops n (D.setIfInBounds i true) (L.put (some d) v) K->jl P ops (n+1) D L K:=by
  intro n
  induction n with
  | zero =>
   intro D L ⟨c1,c2,c3,c4⟩ hv hh
   have tv:i∈Region.ready .any ops D:=(pO c1).2 ⟨o,ho,by rw [uS ae true false];exact c2,c3⟩
   refine⟨fun hr=>(by rw [hr] at tv;cases tv),fun j hj=>?_⟩
   by_cases kQ:j=i
   ·subst kQ
    exact⟨o,_,ho,agl L hv,hh⟩
   ·exfalso
    obtain⟨oj,h1,h2,h3⟩:=(pO c1).1 hj
    have:j∈Region.ready .any ops (D.setIfInBounds i true):=(pO (by simpa using c1)).2 ⟨oj,h1,by
     rw [dB,jP (Ne.symm kQ),<-dB];exact h2,fun k hk=>by
     by_cases pP:i=k
     ·subst pP
      rw [dB,nT ae];rfl
     ·rw [dB,jP pP,<-dB];exact h3 k hk⟩
    rw [hh.1] at this;cases this
  | succ n ih =>
   intro D L ⟨c1,c2,c3,c4⟩ hv hh
   have tv:i∈Region.ready .any ops D:=(pO c1).2 ⟨o,ho,by rw [uS ae true false];exact c2,c3⟩
   refine⟨fun hr=>(by rw [hr] at tv;cases tv),fun j hj=>?_⟩
   by_cases kQ:j=i
   ·subst kQ
    exact⟨o,_,ho,agl L hv,hh⟩
   ·obtain⟨oj,h1,h2,h3⟩:=(pO c1).1 hj
    have hjl:j<ops.size:=(mN.1 h1).1
    have w8:D.getD j false=false:=by rw [uS ae false true];exact h2
    have an7:j∈Region.ready .any ops (D.setIfInBounds i true):=(pO (by simpa using c1)).2 ⟨oj,h1,by
     rw [dB,jP (Ne.symm kQ),<-dB];exact h2,fun k hk=>by
     by_cases pP:i=k
     ·subst pP
      rw [dB,nT ae];rfl
     ·rw [dB,jP pP,<-dB];exact h3 k hk⟩
    obtain⟨oj',L2,g1,g2,g3⟩:=hh.2 j an7
    rw [h1] at g1;cases g1
    obtain⟨k1,k2,k3,k4⟩:=c4 j oj h1 kQ w8
    have mz:d∉oj.looksAt ops:=fun hm=>by
     have:=h3 i (k3 hm)
     rw [c2] at this;cases this
    obtain⟨L1,s1,s2,s3⟩:=aFu k1 mz k2 g2
    refine⟨oj,L1,h1,s1,ih (D.setIfInBounds j true) L1 ⟨by simpa using c1,?_,fun k hk=>?_,fun k ok hk aX fc=>?_⟩ ?_ ?_⟩
    ·rw [dB,jP kQ,<-dB];exact c2
    ·by_cases vj:j=k
     ·subst vj
      rw [dB,nT ae];rfl
     ·rw [dB,jP vj,<-dB];exact c3 k hk
    ·by_cases vj:j=k
     ·subst vj
      rw [dB,nT ae] at fc
      cases fc
     ·rw [dB,jP vj,<-dB] at fc
      exact c4 k ok hk aX fc
    ·refine(hv.adF (aDy aiX) fun x hx=>?_).aET aiX
     cases x with
     | tmp t =>
      have ht:t∈o.looksAt ops:=by
       unfold Oper.looksAt
       simp only [oy,yi]
       exact .inl ⟨.tmp t,by simpa using hx,rfl⟩
      exact s3 t (fun q=>k4 t q ht)
     | const v=>rfl
     | func f=>rfl
     | global f=>rfl
    ·rw [<-s2]
     have:(D.setIfInBounds j true).setIfInBounds i true=(D.setIfInBounds i true).setIfInBounds j true:=by
      refine apB fun k=>?_
      by_cases q1:i=k
      ·subst q1
       rw [nT bw,jP kQ,nT ae]
      ·by_cases q2:j=k
       ·subst q2
        rw [jP q1,nT ae,nT bw]
       ·rw [jP q1,jP q2,jP q2,jP q1]
     rw [this];exact g3
 exact main m D L hC hv h
end
theorem az.b9 {L:St} {t:Nat} {x y:LV} (bs:List Nat) (h0:bs.contains 0=false) (h:L.slot t=x) (hi:cV (L.b9 bs).heap x y):az L ((L.b9 bs).put (some t) y):=by
 rintro n W X Z0 a w ⟨ec,bJ,μ,Z,hc,hr⟩
 obtain⟨Z',hc',hz⟩:=hc.xl (sw bs h0)
 refine⟨ec,bJ,μ,Z',by rw [lH];exact hc',fun s=>?_⟩
 have hm:=bj.mono hz (fun _ _ h=>h) (Frame.refl Z μ w) (hr s)
 rw [g8]
 split
 ·rename_i dC
  subst dC
  rw [h] at hm
  exact bj.sN (LV.eP hi.lay.2.2) (cV.abE (bm:=μ) hc' hi hm)
 ·exact hm
theorem az.hand {L:St} {t:Nat} {α:Type} {e:α->LV} {ag:Bool} {b sz len:Nat} {l:List α} {m:Bool} (he:iJ e sz ag) (h:L.slot t=.ref b sz 0 len) (hb:L.heap b=some ⟨sz,l.map e,m⟩) (hl:len=l.length) (h0:b≠0:=by decide) :
  az L ((L.put (some t) (.list sz (l.map e))).kill b):=by
 have h0':([b]:List Nat).contains 0=false:=by simp;omega
 have e1:=(az.b9 [b] h0' h (fC (bs:=[b]) he hb aT hl)).trans (az.kill _ b h0)
 have e2:((L.b9 [b]).put (some t) (.list sz (l.map e))).kill b=(L.put (some t) (.list sz (l.map e))).kill b:=by
  unfold St.kill
  congr 1
  funext c
  rw [lH,lH]
  by_cases nD:c=b
  ·simp [nD]
  ·simp only [St.b9,if_neg nD]
   cases L.heap c with
   | none=>rfl
   | some blk=>simp [nD]
 rw [<-e2]
 exact e1
theorem az.cm {L:St} {t b sz:Nat} {y:LV} {m:Bool} (h:L.slot t=.aB b sz 0 0) (hb:L.heap b=some ⟨sz,[y],m⟩) (hs:y.aw=sz) (ha:y.isAgg=true) (hp:y.pure=true) (h0:b≠0:=by decide):az L ((L.put (some t) (.cm y)).kill b):=by
 have h0':([b]:List Nat).contains 0=false:=by simp;omega
 have e1:=(az.b9 [b] h0' h (.aB (blk:=⟨sz,[y],m && !([b]:List Nat).contains b⟩) (x:=y) (n:=sz) (ag:=true) (by simp only [St.b9,hb,Option.map_some]) rfl rfl hs (dS hs ha) hp aT)).trans (az.kill _ b h0)
 have e2:((L.b9 [b]).put (some t) (.cm y)).kill b=(L.put (some t) (.cm y)).kill b:=by
  unfold St.kill
  congr 1
  funext c
  rw [lH,lH]
  by_cases nD:c=b
  ·simp [nD]
  ·simp only [St.b9,if_neg nD]
   cases L.heap c with
   | none=>rfl
   | some blk=>simp [nD]
 rw [<-e2]
 exact e1
theorem alb {P:Program} {L L0:St} {Q:jW->St->Prop} {ops:Array Oper} {id:Nat} (hw:az L L0) (h:jl P ops ops.size (qT ops.size false) L0 (Q .normal)):cP P (.region id ops true) Q L:=⟨L0,hw,.inr (.inl ⟨rfl,h⟩)⟩
def afU:List (Nat × bh)->List (Nat × bh)->Prop
 | [],_=>True
 | (b,x) :: t,l=>hp l b=some x/\afU t l
theorem anq {l':List (Nat × bh)}:∀ {l:List (Nat × bh)},afU l l'->∀ c x,hp l c=some x->hp l' c=some x
 | [],_,c,x,h=>by cases h
 | (b,y) :: t,h,c,x,hc=>by
  simp only [hp] at hc
  by_cases hb:c=b
  ·subst hb
   simp only [Nat.beq_refl,cond_true,fp] at hc
   subst hc
   exact h.1
  ·have:n8 c b=false:=by rw [<-aat,yb];exact hb
   rw [this] at hc
   exact anq h.2 c x hc
theorem jh {l l':List (Nat × bh)} (h:afU l l') (h':afU l' l):hp l=hp l':=by
 funext c
 cases hc:hp l c with
 | some x=>exact(anq h c x hc).symm
 | none =>
  cases hc':hp l' c with
  | none=>rfl
  | some x=>rw [anq h' c x hc'] at hc;cases hc
def af2:Op->Bool
 | .store ..=>true
 | .build ..=>true
 | .box ..=>true
 | .alloc ..=>true
 | .buildSlice ..=>true
 | .makeSlice ..=>true
 | .call ⟨.value (.func _),_,_⟩=>true
 | .call ⟨.builtin .append,_,_⟩=>true
 | op=>nr op
section
variable {P:Program} {H:bW} {ρ qS:Operand->LV}
theorem akA {ps:Array (Nat × Operand)} (hr:∀ p∈ps.toList,qS p.2=ρ p.2):(ps.toList.map fun p=>(p.1,ρ p.2))=ps.toList.map fun p=>(p.1,qS p.2) :=
 uU fun p hp=>by rw [hr p hp]
theorem dA.adF {d:Nat} {op:Op} {r:LV} {blk:bh} (h:dA P ρ d op r blk) (hr:∀ x∈op.operands,qS x=ρ x):dA P qS d op r blk:=by
 cases h with
 | make hT hz hE dQ hb hl hc kh hm eO=>exact .make hT hz hE dQ hb ((hr _ bS).trans hl) ((hr _ bS).trans hc) kh hm eO
 | @lit T E n ps z sz hT hz hE dQ hn h0 dM hp =>
  have hq:∀ p∈ps.toList,qS p.2=ρ p.2:=fun p hp=>hr _ (by simp only [Op.operands,av2];exact da.2 ⟨p,hp,rfl⟩)
  rw [akA hq]
  exact .lit hT hz hE dQ hn h0 dM fun p kO=>by rw [hq p kO];exact hp p kO
 | ain hT hE=>exact .ain hT hE
 | @box T x aX =>
  have e:=hr x bS
  rw [<-e]
  rw [<-e] at aX
  exact .box aX
 | alloc hz=>exact .alloc hz
theorem aE.azC {T:TypeId} {ps:Array (Nat × Operand)} {r:LV} (h:aE P H ρ (.build T ps) r) (hr:∀ x∈(Op.build T ps).operands,qS x=ρ x):aE P H qS (.build T ps) r:=by
 have hq:∀ p∈ps.toList,qS p.2=ρ p.2:=fun p hp=>hr _ (by simp only [Op.operands,av2];exact da.2 ⟨p,hp,rfl⟩)
 cases h with
 | aaJ hT hE hf hz hp =>
  rw [akA hq]
  exact .aaJ hT hE hf hz fun p kO=>by rw [hq p kO];exact hp p kO
 | build hT hz hp =>
  rw [akA hq]
  exact .build hT hz fun p kO=>by rw [hq p kO];exact hp p kO
end
theorem aGY (L:St) {d:Nat} {v:LV} (hv:∀ b,v.kill b=v) (b:Nat):(L.put (some d) v).kill b=(L.kill b).put (some d) v:=by
 have h1:∀ t,((L.put (some d) v).kill b).slot t=((L.kill b).put (some d) v).slot t:=fun t=>by
  rw [g8]
  show (((L.put (some d) v).slot t).kill b)=_
  rw [g8]
  split
  ·exact hv b
  ·rfl
 exact congrArg (fun f=>St.mk f (L.kill b).heap) (funext h1)
section
variable {P:Program} {ops:Array Oper}
def anv (L:St):List Operand->Prop
 | []=>True
 | x :: xs=>(∀ b,(L.ev x).kill b=L.ev x)/\anv L xs
theorem ap0 {L:St}:∀ {l:List Operand},anv L l->∀ x∈l,∀ b,(L.ev x).kill b=L.ev x
 | _ :: _,h,_,.head _=>h.1
 | _ :: _,h,_,.tail _ hx=>ap0 h.2 _ hx
theorem eU {p:Prop} (h:p:=by first | exact And.intro (fun _=>rfl) trivial | exact And.intro (fun _=>rfl) (And.intro (fun _=>rfl) trivial) | exact And.intro (fun b=>LV.lV b _ pu) trivial):p:=h
theorem gz {p:Prop} (h:p:=by first | exact(fun _=>rfl) | exact(fun b=>LV.lV b _ pu) | exact(fun b=>LV.lV b _ (by assumption))):p:=h
end
section
variable {P:Program} {ops:Array Oper}
inductive aJB (P:Program) (ops:Array Oper) (o:Oper) (L L':St):Prop
 | base (h:Step P false ops o L L')
 | hand {M:St} {t b sz len:Nat} {vals:List LV} {m:Bool} (h:Step P false ops o L M) (ht:M.slot t=.ref b sz 0 len) (hb:M.heap b=some ⟨sz,vals,m⟩) (hp:aN vals=true) (hl:len=vals.length) (h0:b≠0)
   (e:L'=(M.put (some t) (.list sz vals)).kill b)
section
variable {D:Array Bool} {L:St} {K:St->Prop} {fuel:Nat}
end
section
variable {W w:World} {X:XS} {Z0:Nat->Prop} {a:Act} {n:Nat}
end
end
def zJ:Op->Bool
 | .extract ..=>true
 | .assign _=>true
 | op=>af2 op
section
variable {P:Program} {H:bW} {ρ qS:Operand->LV}
theorem mP.aq7 {d:Nat} {op:Op} {r:LV} {fr:List (Nat × bh)} (mQ:mP P H ρ d op r fr) (hk:zJ op=true) (hr:∀ x∈op.operands,qS x=ρ x):mP P H qS d op r fr:=by
 cases mQ with
 | pure hp =>
  by_cases gv:nr op=true
  ·exact .pure (hp.adF gv hr)
  ·by_cases hbq:∃ T ps,op=.build T ps
   ·obtain⟨T,ps,rfl⟩:=hbq
    exact .pure (hp.azC hr)
   ·cases hp with
    | aa3 hf qG hb hn he hx h1' h1 h2 =>
     refine .pure (.aa3 hf qG hb hn he ?_ h1' h1 h2)
     rw [<-hx]
     exact uU fun x wy=>hr x (yh wy)
    | assign x=>rw [<-hr x bS];exact .pure (.assign x)
    | extract ht hq aX=>exact .pure (.extract ((hr _ bS).trans ht) hq aX)
    | build=>exact absurd ⟨_,_,rfl⟩ hbq
    | aaJ=>exact absurd ⟨_,_,rfl⟩ hbq
    | _=>first | (exfalso;exact gv rfl) | (exfalso;revert hk gv;simp [zJ,af2,nr])
 | alloc ha=>exact .alloc (ha.adF hr)
 | call hc =>
  cases hc with
  | func ha hkk hlen n5 =>
   refine .call (.func ?_ hkk hlen n5)
   rw [show (_:Array Operand).toList.map qS=_ from uU fun x wy=>hr x (yh wy)]
   exact ha
  | dk=>exfalso;revert hk;simp [zJ,af2,nr]
  | mk=>exfalso;revert hk;simp [zJ,af2,nr]
end
section
variable {P:Program} {ops:Array Oper}
theorem aFr {L L2:St} {d:Nat} {v:LV} {o:Oper} (hv:∀ b,v.kill b=v) (hk:zJ o.op=true) (hl:d∉o.looksAt ops) (hd:o.dst≠some d) (h:Step P false ops o (L.put (some d) v) L2) :
  ∃ L1,Step P false ops o L L1/\L2=L1.put (some d) v/\∀ t,o.dst≠some t->(∀ b,(L.slot t).kill b=L.slot t)->L1.slot t=L.slot t:=by
 have gG:=atP (L:=L) (v:=v) hl
 have kA:∀ (M:St) (r:LV) t,M.slot t=L.slot t->o.dst≠some t->(M.put o.dst r).slot t=L.slot t:=fun M r t hM aX=>by
  cases hh:o.dst with
  | none=>exact hM
  | some e=>rw [g8,if_neg (fun q=>aX (by rw [hh,q]))];exact hM
 cases h with
 | skip hg hL=>exact⟨L.put o.dst (.bf []),.skip (tF hl hg) rfl,by rw [hL,s6 L hd],fun t ht _=>kA L _ t rfl ht⟩
 | @val r fr H1 hg hle dO mQ hL =>
  obtain⟨dst,op,ty,pos,after,gd⟩:=o
  have agj:∀ x∈op.operands,L.ev x=(L.put (some d) v).ev x:=fun x hx=>(gG x hx).symm
  have acY:mP P H1 L.ev (dst.getD 0) op r fr:=mQ.aq7 hk agj
  refine⟨⟨(L.put dst r).slot,H1⟩,.val (tF hl hg) hle dO acY rfl,?_,fun t ht _=>kA L r t rfl ht⟩
  rw [hL]
  have:=s6 L hd v r
  exact congrArg (fun M=>St.mk (St.slot M) H1) this
 | st hg rn =>
  obtain⟨dst,op,ty,pos,after,gd⟩:=o
  cases rn with
  | store hp hb hs hm hi hy mS hT aX =>
   rename_i T p x b sz i o' blk y y'
   have e1:=gG p bS
   have e2:=gG x bS
   rw [e1] at hp
   rw [e2] at mS hT aX
   refine⟨_,.st (tF hl hg) (.store hp hb hs hm hi hy mS hT aX),?_,fun t ht _=>?_⟩
   ·exact s6 (L.bO b _) hd v .any
   ·exact kA (L.bO b _) .any t rfl ht
  | iw hx hb hs hm hlen ga gf hT hU hz hE dQ lD hy bJ gC dM =>
   rename_i T U E E' d' b sz len blk x y news z dN
   have e1:=gG x lC
   have e2:=gG y lC
   rw [e1] at hx
   rw [e2] at hy
   refine⟨_,.st (tF hl hg) (.iw hx hb hs hm hlen ga gf hT hU hz hE dQ lD hy bJ gC dM),?_,fun t ht hf=>?_⟩
   ·rw [aGY L hv]
    exact s6 ((L.kill b).bO d' _) hd v _
   ·exact kA ((L.kill b).bO d' _) _ t (hf b) ht
  | ae1 hx ga hT hU hz hE dQ lD hy hn bJ gC dM =>
   rename_i T U E E' d' sz x y news z dN
   have e1:=gG x lC
   have e2:=gG y lC
   rw [e1] at hx
   rw [e2] at hy
   refine⟨_,.st (tF hl hg) (.ae1 hx ga hT hU hz hE dQ lD hy hn bJ gC dM),?_,fun t ht hf=>?_⟩
   ·exact s6 (L.bO d' _) hd v _
   ·exact kA (L.bO d' _) _ t rfl ht
  | _=>exfalso;revert hk;simp [zJ,af2,nr]
 | stM gX hg kK =>
  obtain⟨dst,op,ty,pos,after,gd⟩:=o
  cases kK with
  | call hb hm hp ha hn hkk pQ kO =>
   rename_i f xs uC args r b blk blk'
   have em:xs.toList.map (L.put (some d) v).ev=xs.toList.map L.ev:=uU fun x wy=>gG x (yh wy)
   rw [em] at ha hn
   refine⟨_,.stM gX (tF hl hg) (.call hb hm hp ha hn hkk pQ kO),?_,fun t ht _=>?_⟩
   ·exact s6 (L.bO b _) hd v _
   ·exact kA (L.bO b _) _ t rfl ht
  | af6 hT hU hz hE dQ hb hx ll oa hlen hy ga hgr dM hm gC =>
   rename_i T U E x y z k kl sz dN len cp n d' b blk
   rw [gG x lC] at hx
   rw [gG y lC] at hy
   refine⟨_,.stM gX (tF hl hg) (.af6 hT hU hz hE dQ hb hx ll oa hlen hy ga hgr dM hm gC),?_,fun t ht _=>?_⟩
   ·exact s6 (L.bO d' _) hd v _
   ·exact kA (L.bO d' _) _ t rfl ht
  | ovl hf qG hb hn he ht hE hx hy vk h1 h2 dM =>
   rw [gG _ (yh aT)] at hx
   rw [gG _ (yh aT)] at hy
   refine⟨_,.stM gX (tF hl hg) (.ovl hf qG hb hn he ht hE hx hy vk h1 h2 dM),?_,fun t ht _=>?_⟩
   ·exact s6 L hd v _
   ·exact kA L _ t rfl ht
  | aiS hT hU hz hE dQ hb hx hy ga h0 dM hm gC =>
   rename_i T U E x y z k kl sz dN n d'
   have e1:=gG x lC
   have e2:=gG y lC
   rw [e1] at hx
   rw [e2] at hy
   refine⟨_,.stM gX (tF hl hg) (.aiS hT hU hz hE dQ hb hx hy ga h0 dM hm gC),?_,fun t ht _=>?_⟩
   ·exact s6 (L.bO d' _) hd v _
   ·exact kA (L.bO d' _) _ t rfl ht
def awh (ops:Array Oper) (i:Nat) (D:Array Bool):Bool :=
 D.size==ops.size && !D.getD i true && (jN (ops.getD i default)).all (fun j=>D.getD j false) && (ops.getD i default).guard.isNone && zJ (ops.getD i default).op &&
 (cW ops.size).all fun j=>j==i || D.getD j true || (zJ (ops.getD j default).op && ((ops.getD j default).dst != (ops.getD i default).dst) &&
  (match (ops.getD i default).dst with | some d=>!((ops.getD j default).looksAt ops).contains d || (jN (ops.getD j default)).contains i | none=>false) &&
  (match (ops.getD j default).dst with | some e=>!((ops.getD i default).looksAt ops).contains e | none=>true))
theorem eT {m:Nat} {K:St->Prop} {L:St} {D:Array Bool} {d:Nat} {v:LV} (i:Nat) {o:Oper} (ho:ops[i]?=some o) (adr:o.dst=some d) (fq:awh ops i D=true) (hv:mP P (fun _=>none) L.ev d o.op v [])
  (hfv:∀ b,v.kill b=v) (hfo:anv L o.op.operands.toList)
  (h:jl P ops m (D.setIfInBounds i true) (L.put (some d) v) K):jl P ops (m+1) D L K:=by
 have g7:∀ i o,ops[i]?=some o->ops.getD i default=o:=fun i o h=>by rw [dB,h];rfl
 have su:i<ops.size:=(mN.1 ho).1
 let C:Array Bool->Prop:=fun D=>D.size=ops.size/\D.getD i false=false/\(∀ j∈jN o,D.getD j false=true)/\∀ j oj,ops[j]?=some oj->j≠i->D.getD j false=false ->
  zJ oj.op=true/\oj.dst≠some d/\(d∈oj.looksAt ops->i∈jN oj)/\∀ e,oj.dst=some e->e∉o.looksAt ops
 unfold awh at fq
 rw [g7 i o ho,adr] at fq
 simp only [jq,oR,pI,ob,beq_iff_eq,wY,wW,bne_iff_ne,ne_eq] at fq
 obtain⟨⟨⟨⟨⟨bJ,sK⟩,wO⟩,hgd⟩,aiX⟩,eE⟩:=fq
 have hC:C D:=by
  refine⟨bJ,by rw [uS ae false true];exact sK,wO,fun j oj hj aX w8=>?_⟩
  have hjl:j<ops.size:=(mN.1 hj).1
  have:=eE j hjl
  rw [g7 j oj hj] at this
  rcases this with(q | q) | q
  ·exact absurd q aX
  ·rw [uS ae true false,w8] at q;cases q
  ·obtain⟨⟨⟨q1,q2⟩,q3⟩,q4⟩:=q
   refine⟨q1,q2,fun hm=>?_,fun e he hm=>?_⟩
   ·rcases q3 with q | q
    ·rw [oX.2 hm] at q;cases q
    ·exact oX.1 q
   ·rw [he] at q4
    simp only [wY] at q4
    rw [oX.2 hm] at q4;cases q4
 have agl:∀ L:St,mP P (fun _=>none) L.ev d o.op v []->Step P false ops o L (L.put (some d) v):=fun L hv=>by
  refine .val (fr:=[]) (H1:=L.heap) (r:=v) (by unfold dY;rw [hgd]) (bW.le_refl _) (fun _ _ hh=>by cases hh) (by rw [adr];exact hv.le fun b blk h=>by cases h) ?_
  rw [adr];rfl
 clear bJ sK wO eE
 have azj:∀ x∈o.op.operands,∀ b,(L.ev x).kill b=L.ev x:=fun x hx=>ap0 hfo x (afH.2 hx)
 clear hfo
 have main:∀ (n:Nat) (D:Array Bool) (L:St),C D->mP P (fun _=>none) L.ev d o.op v []->(∀ x∈o.op.operands,∀ b,(L.ev x).kill b=L.ev x)->jl P ops n (D.setIfInBounds i true) (L.put (some d) v) K->jl P ops (n+1) D L K:=by
  intro n
  induction n with
  | zero =>
   intro D L ⟨c1,c2,c3,c4⟩ hv _ hh
   have tv:i∈Region.ready .any ops D:=(pO c1).2 ⟨o,ho,by rw [uS ae true false];exact c2,c3⟩
   refine⟨fun hr=>(by rw [hr] at tv;cases tv),fun j hj=>?_⟩
   by_cases kQ:j=i
   ·subst kQ
    exact⟨o,_,ho,agl L hv,hh⟩
   ·exfalso
    obtain⟨oj,h1,h2,h3⟩:=(pO c1).1 hj
    have:j∈Region.ready .any ops (D.setIfInBounds i true):=(pO (by simpa using c1)).2 ⟨oj,h1,by
     rw [dB,jP (Ne.symm kQ),<-dB];exact h2,fun k hk=>by
     by_cases pP:i=k
     ·subst pP
      rw [dB,nT ae];rfl
     ·rw [dB,jP pP,<-dB];exact h3 k hk⟩
    rw [hh.1] at this;cases this
  | succ n ih =>
   intro D L ⟨c1,c2,c3,c4⟩ hv hfo hh
   have tv:i∈Region.ready .any ops D:=(pO c1).2 ⟨o,ho,by rw [uS ae true false];exact c2,c3⟩
   refine⟨fun hr=>(by rw [hr] at tv;cases tv),fun j hj=>?_⟩
   by_cases kQ:j=i
   ·subst kQ
    exact⟨o,_,ho,agl L hv,hh⟩
   ·obtain⟨oj,h1,h2,h3⟩:=(pO c1).1 hj
    have hjl:j<ops.size:=(mN.1 h1).1
    have w8:D.getD j false=false:=by rw [uS ae false true];exact h2
    have an7:j∈Region.ready .any ops (D.setIfInBounds i true):=(pO (by simpa using c1)).2 ⟨oj,h1,by
     rw [dB,jP (Ne.symm kQ),<-dB];exact h2,fun k hk=>by
     by_cases pP:i=k
     ·subst pP
      rw [dB,nT ae];rfl
     ·rw [dB,jP pP,<-dB];exact h3 k hk⟩
    obtain⟨oj',L2,g1,g2,g3⟩:=hh.2 j an7
    rw [h1] at g1;cases g1
    obtain⟨k1,k2,k3,k4⟩:=c4 j oj h1 kQ w8
    have mz:d∉oj.looksAt ops:=fun hm=>by
     have:=h3 i (k3 hm)
     rw [c2] at this;cases this
    obtain⟨L1,s1,s2,s3⟩:=aFr hfv k1 mz k2 g2
    have acm:∀ x∈o.op.operands,L1.ev x=L.ev x:=fun x hx=>by
     cases x with
     | tmp t =>
      have ht:t∈o.looksAt ops:=by
       unfold Oper.looksAt
       simp only [oy,yi]
       exact .inl ⟨.tmp t,by simpa using hx,rfl⟩
      exact s3 t (fun q=>k4 t q ht) (hfo _ hx)
     | const v=>rfl
     | func f=>rfl
     | global f=>rfl
    refine⟨oj,L1,h1,s1,ih (D.setIfInBounds j true) L1 ⟨by simpa using c1,?_,fun k hk=>?_,fun k ok hk aX fc=>?_⟩ (hv.aq7 aiX acm) (fun x hx b=>by rw [acm x hx];exact hfo x hx b) ?_⟩
    ·rw [dB,jP kQ,<-dB];exact c2
    ·by_cases vj:j=k
     ·subst vj
      rw [dB,nT ae];rfl
     ·rw [dB,jP vj,<-dB];exact c3 k hk
    ·by_cases vj:j=k
     ·subst vj
      rw [dB,nT ae] at fc
      cases fc
     ·rw [dB,jP vj,<-dB] at fc
      exact c4 k ok hk aX fc
    ·rw [<-s2]
     have:(D.setIfInBounds j true).setIfInBounds i true=(D.setIfInBounds i true).setIfInBounds j true:=by
      refine apB fun k=>?_
      by_cases q1:i=k
      ·subst q1
       rw [nT bw,jP kQ,nT ae]
      ·by_cases q2:j=k
       ·subst q2
        rw [jP q1,nT ae,nT bw]
       ·rw [jP q1,jP q2,jP q2,jP q1]
     rw [this];exact g3
 exact main m D L hC hv azj h
end
section
variable {P:Program} {W w w':World} {X:XS} {Z0 Z Zr:Nat->Prop} {μ dV:Nat->Option Nat} {H:bW} {a:Act} {L L':St} {n:Nat} {ops:Array Oper}
def afl (P:Program) (ops:Array Oper) (o:Oper) (L L':St):Prop :=
 ∀ (n:Nat) (W:World) (X:XS) (Z0:Nat->Prop) (a:Act) (w:World) (K:Act->World->Prop) (Q:Exit->Act->World->Prop),fV n W X Z0 L a w->(∀ t,o.dst=some t->t<n) ->
  (∀ a' w',fV n W X Z0 L' a' w'->K a' w')->if Region.wanted o (yielded ops a.tmps) then o.wp P a w K Q else K (a.put o.dst undef) w
variable {Q:jW->St->Prop}
end
end Go.Lg
namespace Go.Lg
section
variable {P:Program} {W w w':World} {X X0:XS} {Z0 Z Zr:Nat->Prop} {μ dV:Nat->Option Nat} {H H' Hr:bW} {a:Act} {L L':St} {n d:Nat} {ops:Array Oper} {σ:Nat->Nat}
def wa (μ dV:Nat->Option Nat) (d:Nat):Nat->Option Nat:=fun c=>if 1000000+d*16<c/\c<1000000+d*16+16 then(dV (c-(1000000+d*16))).or (μ c) else μ c
theorem Core.aIi (hc:Core W X Z0 μ Z H w) (hr:Core w X0 Z dV Zr Hr w') (hσ:∀ k id,dV k=some id->k≠0->k<16/\σ k=ef d k/\μ (ef d k)=none)
  (hb:∀ id,X0.x id->μ (σ 0)=some id/\¬ Z id) (hy:∀ id,X0.y id->(∀ c,μ c≠some id)/\¬ Z id/\(W.heap.size<=id\/X.y id)) (h0:∀ id,dV 0=some id->X0.x id) (hH:∀ k id blk,dV k=some id->Hr k=some blk->H' (σ k)=some ⟨blk.sz,du σ blk.vals,blk.mt⟩)
  (hold:∀ c id,μ c=some id->¬ X0 id->H' c=H c) :
  Core W X Z0 (wa μ dV d) Zr H' w'/\(∀ c id,μ c=some id->wa μ dV d c=some id)/\Frame Z μ w w'/\(∀ k id,dV k=some id->wa μ dV d (σ k)=some id):=by
 have aiD:∀ c id,μ c=some id->wa μ dV d c=some id:=fun c id h=>by
  unfold wa
  split
  ·rename_i pA
   cases hq:dV (c-(1000000+d*16)) with
   | none=>simpa using h
   | some id' =>
    have:=(hσ _ _ hq ae).2.2
    have e:ef d (c-(1000000+d*16))=c:=by unfold ef;omega
    rw [e,h] at this;cases this
  ·exact h
 have aFn:∀ k id,dV k=some id->k≠0->wa μ dV d (ef d k)=some id:=fun k id h hk=>by
  have:=(hσ _ _ h hk).1
  unfold wa ef
  rw [if_pos ae]
  have e:1000000+d*16+k-(1000000+d*16)=k:=by omega
  rw [e,h];rfl
 have mc:∀ k id,dV k=some id->wa μ dV d (σ k)=some id:=fun k id h=>by
  by_cases hk:k=0
  ·subst hk;exact aiD _ _ (hb id (h0 id h)).1
  ·rw [(hσ _ _ h hk).2.1];exact aFn k id h hk
 have hinv:∀ c id,wa μ dV d c=some id->(∃ k,k≠0/\c=ef d k/\dV k=some id)\/μ c=some id:=fun c id h=>by
  unfold wa at h
  split at h
  ·rename_i pA
   cases hq:dV (c-(1000000+d*16)) with
   | none=>rw [hq] at h;exact .inr mW
   | some id' =>
    rw [hq] at h
    simp only [Option.some_or,fp] at h
    subst h
    exact .inl ⟨c-(1000000+d*16),ae,by unfold ef;omega,hq⟩
  ·exact .inr h
 have cd:∀ k id,dV k=some id->k≠0->w.heap.size<=id\/X0.y id:=fun k id h hk=>by
  rcases hr.own k id h with h1 | h1 | h1
  ·exact .inl h1
  ·exact absurd (hr.x0 k id h h1) hk
  ·exact .inr h1
 have zV:∀ k id c,dV k=some id->k≠0->μ c=some id->False:=fun k id c h hk h1=>by
  rcases cd k id h hk with h2 | h2
  ·have:=hc.lt h1;omega
  ·exact(hy id h2).1 c h1
 have rB:∀ k,k<w.heap.size->¬ X0 k->w'.heap[k]?=w.heap[k]?:=fun k hk hx=>hr.cC.block k hk hx
 have dO:Frame Z μ w w':=by
  refine⟨fun id h=>rB id (hc.lI id h) (fun e=>e.elim (fun e=>(hb id e).2 h) (fun e=>(hy id e).2.1 h)),fun c id h cc T fz qO=>?_⟩
  by_cases e:X0 id
  ·exact hr.cC.vx id e cc T fz qO
  ·exact⟨cc,(rB id (hc.lt h) e).trans qO,rfl⟩
 have hX:∀ k,k<W.heap.size->¬ X k->¬ X0 k:=fun k hk hx e=>by
  rcases e with e | e
  ·rcases hc.own (σ 0) k (hb k e).1 with h | h
   ·omega
   ·exact hx h
  ·rcases(hy k e).2.2 with h | h
   ·omega
   ·exact hx (.inr h)
 refine⟨⟨?_,hr.lI,fun id h=>hr.jG id (hc.jG id h),?_,?_,?_,?_,hc.ov,fun id h=>aiD 0 id (hc.x1 id h),?_,?_,?_⟩,aiD,dO,mc⟩
 ·refine⟨hr.cC.os.trans hc.cC.os,hr.cC.tape.trans hc.cC.tape,hr.cC.output.trans hc.cC.output,a9 hc.cC.size hr.cC.size,fun k hk hx=>?_,fun k hx c T fz h=>?_⟩
  ·exact(rB k (by have:=hc.cC.size;omega) (hX k hk hx)).trans (hc.cC.block k hk hx)
  ·obtain⟨c',g1,g2⟩:=hc.cC.vx k hx c T fz h
   by_cases e:X0 k
   ·obtain⟨c2,g3,g4⟩:=hr.cC.vx k e c' T fz g1
    exact⟨c2,g3,g4.trans g2⟩
   ·exact⟨c',(rB k (mN.1 g1).1 e).trans g1,g2⟩
 ·intro id h
  rcases hr.lK id h with h | h | h
  ·exact hc.lK id h
  ·exact .inr (.inl (a9 hc.cC.size h))
  ·exact .inr (hy id h).2.2
 ·intro c c' id h h'
  rcases hinv c id h with⟨k,k0,rfl,h1⟩ | h1<;>rcases hinv c' id h' with⟨k',k0',rfl,h2⟩ | h2
  ·rw [hr.inj k k' id h1 h2]
  ·exact(zV k id _ h1 k0 h2).elim
  ·exact(zV k' id _ h2 k0' h1).elim
  ·exact hc.inj c c' id h1 h2
 ·intro c id h
  rcases hinv c id h with⟨k,k0,rfl,h1⟩ | h1
  ·rcases cd k id h1 k0 with h2 | h2
   ·exact .inl (a9 hc.cC.size h2)
   ·exact(hy id h2).2.2.imp (fun h=>h) .inr
  ·exact hc.own c id h1
 ·intro c id h hx
  rcases hinv c id h with⟨k,k0,rfl,h1⟩ | h1
  ·exact(zV k id 0 h1 k0 (hc.x1 id hx)).elim
  ·exact hc.x0 c id h1 hx
 all_goals
  have wK:∀ c id,wa μ dV d c=some id->(∃ k blk,c=σ k/\dV k=some id/\Hr k=some blk/\uy Zr dV w' blk id)\/(¬ X0 id/\μ c=some id):=fun c id h=>by
   rcases hinv c id h with⟨k,k0,rfl,h1⟩ | h1
   ·obtain⟨blk,g1,g2⟩:=hr.heap k id h1
    exact .inl ⟨k,blk,(hσ k id h1 k0).2.1.symm,h1,g1,g2⟩
   ·by_cases e:X0 id
    ·have e:X0.x id:=e.resolve_right (fun e=>(hy id e).1 c h1)
     have v8:=hc.inj c (σ 0) id h1 (hb id e).1
     have h2:=hr.x1 id e
     obtain⟨blk,g1,g2⟩:=hr.heap 0 id h2
     exact .inl ⟨0,blk,v8,h2,g1,g2⟩
    ·exact .inr ⟨e,h1⟩
 ·intro c id blk h g fj hz
  rcases wK c id h with⟨k,b0,rfl,h1,g1,g2⟩ | ⟨e,h1⟩
  ·rw [hH k id b0 h1 g1] at g;cases g
   exact hr.jx k id b0 h1 g1 fj hz
  ·rw [hold c id h1 e] at g
   rcases hr.lK id hz with hz | hz | hz
   ·exact hc.jx c id blk h1 g fj hz
   ·have:=hc.lt h1;omega
   ·exact(e (.inr hz)).elim
 ·intro c id blk h g fj
  rcases wK c id h with⟨k,b0,rfl,h1,g1,g2⟩ | ⟨e,h1⟩
  ·rw [hH k id b0 h1 g1] at g;cases g
   exact hr.b9 k id b0 h1 g1 fj
  ·rw [hold c id h1 e] at g
   exact hr.jG id (hc.b9 c id blk h1 g fj)
 ·intro c id h
  rcases wK c id h with⟨k,b0,rfl,h1,g1,cc,T,part,rest,q1,q2,q3⟩ | ⟨e,h1⟩
  ·exact⟨_,hH k id b0 h1 g1,cc,T,part,rest,q1,q2,aR.bV σ mc _ _ _ q3⟩
  ·obtain⟨bk,g1,g2⟩:=hc.heap c id h1
   exact⟨bk,by rw [hold c id h1 e];exact g1,g2.mono hr.jG aiD dO (rB id (hc.lt h1) e)⟩
def ud (blk:bh) (bs:List bh):bW:=fun n=>if n=0 then some blk else bs[n-1]?
def tJ (σ:Nat->Nat):Nat->List bh->St->St
 | _,[],L=>L
 | k,b :: bs,L=>tJ σ (k+1) bs (L.bO (σ k) (some ⟨b.sz,du σ b.vals,b.mt⟩))
theorem axk:∀ (bs:List bh) (k:Nat) (L:St),(tJ σ k bs L).slot=L.slot
 | [],_,_=>rfl
 | b :: bs,k,L=>by rw [tJ,axk bs];rfl
theorem ag8:∀ (bs:List bh) (k:Nat) (L:St) (c:Nat),(∀ j,k<=j->j<k+bs.length->c≠σ j)->(tJ σ k bs L).heap c=L.heap c
 | [],_,_,_,_=>rfl
 | b :: bs,k,L,c,h=>by
   rw [tJ,ag8 bs (k+1) _ c (fun j h1 h2=>h j ae (by simp only [qJ];omega))]
   show (if c=σ k then _ else L.heap c)=_
   rw [if_neg (h k (bp _) (by simp only [qJ];omega))]
theorem aq3:∀ (bs:List bh) (k:Nat) (L:St) (i:Nat) (b:bh),(∀ j j',k<=j->j<j'->j'<k+bs.length->σ j≠σ j')->bs[i]?=some b->(tJ σ k bs L).heap (σ (k+i))=some ⟨b.sz,du σ b.vals,b.mt⟩
 | [],_,_,i,_,_,h=>by simp at h
 | x :: xs,k,L,0,b,hi,h=>by
   simp only [qo,fp] at h;subst h
   show (tJ σ k (x :: xs) L).heap (σ k)=_
   rw [tJ,ag8 xs (k+1) _ _ (fun j h1 h2=>hi k j (bp _) ae (by simp only [qJ];omega))]
   simp [St.bO]
 | x :: xs,k,L,i+1,b,hi,h=>by
   rw [tJ]
   have:=aq3 xs (k+1) (L.bO (σ k) (some ⟨x.sz,du σ x.vals,x.mt⟩)) i b (fun j j' h1 h2 h3=>hi j j' ae h2 (by simp only [qJ];omega)) mW
   rwa [show k+1+i=k+(i+1) by omega] at this
def mD (b d:Nat):Nat->Nat:=fun k=>if k=0 then b else ef d k
end
end Go.Lg
namespace Go.Lg
section
variable {P:Program} {W w w':World} {X X0:XS} {Z0 Z Zr:Nat->Prop} {μ dV:Nat->Option Nat} {H H' Hr:bW} {a:Act} {L L':St} {n d:Nat} {ops:Array Oper} {σ:Nat->Nat}
def rQ (own:List Nat):Nat->Nat:=fun b=>if b=0 then 0 else own.idxOf b+1
def aaj (μ:Nat->Option Nat) (own:List Nat):Nat->Option Nat:=fun k=>if k=0 then μ 0 else(own[k-1]?).bind μ
theorem aCV {own:List Nat} {k id:Nat} (hnd:own.Nodup) (h:aaj μ own k=some id):(k=0/\μ 0=some id)\/∃ b,k≠0/\own[k-1]?=some b/\μ b=some id:=by
 unfold aaj at h
 split at h
 ·rename_i e;exact .inl ⟨e,h⟩
 ·rename_i e
  rw [Option.bind_eq_some_iff] at h
  obtain⟨b,g1,g2⟩:=h
  exact .inr ⟨b,e,g1,g2⟩
theorem aHc {own:List Nat} {H:bW} (hc:∀ c id,μ c=some id->H c≠none) (abz:∀ c,c≠0->H c≠none->c∈own):∀ c id,μ c=some id->aaj μ own (rQ own c)=some id:=fun c id h=>by
 by_cases h0:c=0
 ·subst h0;simpa [rQ,aaj] using h
 ·have hm:=abz c h0 (hc c id h)
  have hl:=List.idxOf_lt_length_of_mem hm
  have he:own[own.idxOf c]?=some c:=by rw [cq hl,List.getElem_idxOf hl]
  simp [rQ,aaj,h0,he,h]
theorem aoD {bm:Nat->Option Nat} (f:Nat->Nat) (hm:∀ c id,μ c=some id->bm (f c)=some id) (hc:Core W X Z0 μ Z L.heap w) (hr:∀ t,bj Z μ w (L.slot t) (a.tmps.getD t undef)) :
  ∀ (rs:List ResultVar) (xs:List LV),zh P L rs xs->(∀ x∈xs,x≠.any/\∀ l,x≠.bf l)->∃ us,(rs.mapM (zQ a.tmps)).run P w=.ok us w/\fY Z bm w (du f xs) us
 | _,_,.nil,_=>⟨[],rfl,rfl⟩
 | _,_,.cons (vs:=vs) (xs:=xs) h t,hx=>by
   obtain⟨u,q1,q2⟩:=alI hc hr h (hx _ aT)
   obtain⟨us,q3,q4⟩:=aoD f hm hc hr _ _ t (fun y hy=>hx y (by simp [hy]))
   refine⟨u :: us,?_,u,us,rfl,q2.bV f hm,q4⟩
   rw [List.mapM_cons,Sem.run_bind,q1]
   simp only [Result.andThen_ok,Sem.run_bind,q3,Sem.run_pure]
theorem aCL {ys:List LV} {us:List Value} (h:fY Z μ w ys us):bj Z μ w (ag7 ys) (if h:us.toArray.size=1 then us.toArray[0] else .tuple us.toArray):=by
 have zx:=abW _ _ h
 match ys,us,h,zx with
 | [y],[u],q2,_ =>
  obtain⟨v,jT,e,g1,g2⟩:=q2
  simp only [fJ] at e
  obtain⟨rfl,_⟩:=e
  have hnt:∀ l,y≠.bf l:=fun l e=>by subst e;have:=g1.2 rfl;simp [aC] at this
  exact bj.sN hnt g1
 | [],[],q2,_=>exact⟨_,rfl,by simpa using q2⟩
 | y :: y' :: ys,u :: u' :: us,q2,_=>exact⟨(u :: u' :: us).toArray,by simp,by simpa using q2⟩
theorem Core.aIv {own:List Nat} {Hr:bW} {bs:List bh} (hc:Core W X Z0 μ Z H w) (hnd:own.Nodup) (jb:0∉own) (abz:∀ c,c≠0->H c≠none->c∈own)
  (rP:∀ (k b:Nat),own[k]?=some b->∃ blk:bh,H b=some blk/\bs[k]?=some ⟨blk.sz,du (rQ own) blk.vals,blk.mt⟩)
  (eW:∀ k,k≠0->Hr k=bs[k-1]?) (tK:∀ id blk,μ 0=some id->H 0=some blk->Hr 0=some ⟨blk.sz,du (rQ own) blk.vals,blk.mt⟩) :
  Core W X Z0 (aaj μ own) Z Hr w/\∀ c id,μ c=some id->aaj μ own (rQ own c)=some id:=by
 have hhm:∀ c id,μ c=some id->H c≠none:=fun c id h e=>by obtain⟨bk,g,_⟩:=hc.heap c id h;rw [e] at g;cases g
 have hm:=aHc (μ:=μ) (own:=own) hhm abz
 have wK:∀ k id,aaj μ own k=some id->∃ c blk,μ c=some id/\H c=some blk/\uy Z μ w blk id/\Hr k=some ⟨blk.sz,du (rQ own) blk.vals,blk.mt⟩/\((k=0/\c=0)\/(k≠0/\c≠0/\own[k-1]?=some c)):=fun k id h=>by
  rcases aCV hnd h with⟨rfl,h0⟩ | ⟨b,k0,g1,g2⟩
  ·obtain⟨blk,q1,q2⟩:=hc.heap 0 id h0
   exact⟨0,blk,h0,q1,q2,tK id blk h0 q1,.inl ⟨rfl,rfl⟩⟩
  ·obtain⟨blk,q1,q2⟩:=hc.heap b id g2
   obtain⟨blk',j1,j2⟩:=rP _ _ g1
   rw [q1] at j1;cases j1
   exact⟨b,blk,g2,q1,q2,by rw [eW k k0];exact j2,.inr ⟨k0,fun e=>jb (e ▸ sb g1),g1⟩⟩
 refine⟨⟨hc.cC,hc.lI,hc.jG,hc.lK,?_,?_,?_,hc.ov,fun id h=>by simpa [aaj] using hc.x1 id h,?_,?_,?_⟩,hm⟩
 ·intro k k' id h h'
  obtain⟨c,_,g1,_,_,_,g2⟩:=wK k id h
  obtain⟨c',_,g1',_,_,_,g2'⟩:=wK k' id h'
  have e:=hc.inj c c' id g1 g1'
  subst e
  rcases g2 with⟨rfl,c0⟩ | ⟨k0,c0,q⟩<;>rcases g2' with⟨rfl,c0'⟩ | ⟨k0',c0',q'⟩
  ·rfl
  ·exact absurd c0 c0'
  ·exact absurd c0' c0
  ·obtain⟨l1,e1⟩:=oC.1 q
   obtain⟨l2,e2⟩:=oC.1 q'
   have hp:=List.pairwise_iff_getElem.1 hnd
   rcases Nat.lt_trichotomy (k-1) (k'-1) with h | h | h
   ·exact absurd (e1.trans e2.symm) (hp _ _ l1 l2 h)
   ·omega
   ·exact absurd (e2.trans e1.symm) (hp _ _ l2 l1 h)
 ·intro k id h
  obtain⟨c,_,g1,_⟩:=wK k id h
  exact hc.own c id g1
 ·intro k id h hx
  obtain⟨c,_,g1,_,_,_,g2⟩:=wK k id h
  have:=hc.x0 c id g1 hx
  rcases g2 with⟨rfl,_⟩ | ⟨_,c0,_⟩
  ·rfl
  ·exact absurd this c0
 ·intro k id blk h g fj
  obtain⟨c,b0,g1,g2,g3,g4,_⟩:=wK k id h
  rw [g4] at g;cases g
  exact hc.jx c id b0 g1 g2 fj
 ·intro k id blk h g fj
  obtain⟨c,b0,g1,g2,g3,g4,_⟩:=wK k id h
  rw [g4] at g;cases g
  exact hc.b9 c id b0 g1 g2 fj
 ·intro k id h
  obtain⟨c,b0,g1,g2,⟨cc,T,part,rest,j1,j2,j3⟩,g4,_⟩:=wK k id h
  exact⟨_,g4,cc,T,part,rest,j1,j2,aR.bV _ hm _ _ _ j3⟩
def ja (b b':Nat):Nat->Nat:=fun k=>if k=b then b' else k
def St.move (L:St) (b b':Nat):St :=
 ⟨fun t=>(L.slot t).bV (ja b b'),fun c=>if c=b' then(L.heap b).map fun x=>⟨x.sz,du (ja b b') x.vals,x.mt⟩ else if c=b then none else(L.heap c).map fun x=>⟨x.sz,du (ja b b') x.vals,x.mt⟩⟩
theorem az.aCf {L:St} {b b':Nat} (hb:b≠0) (pA:b'≠0) (aX:b≠b') (hf:L.heap b'=none):az L (L.move b b'):=by
 rintro n W X Z0 a w ⟨ec,bJ,μ,Z,hc,hr⟩
 have tC:μ b'=none:=uw hc hf
 let bm:Nat->Option Nat:=fun c=>if c=b' then μ b else if c=b then none else μ c
 have hm:∀ c id,μ c=some id->bm (ja b b' c)=some id:=fun c id h=>by
  by_cases e:c=b
  ·subst e;simp [bm,ja,h]
  ·have e':c≠b':=by rintro rfl;rw [tC] at h;cases h
   simp [bm,ja,e,e',h]
 have hinv:∀ c id,bm c=some id->∃ c0,μ c0=some id/\c=ja b b' c0:=fun c id h=>by
  simp only [bm] at h
  split at h
  ·rename_i e;exact⟨b,h,by simp [ja,e]⟩
  ·split at h
   ·cases h
   ·rename_i e1 e2;exact⟨c,h,by simp [ja,e2]⟩
 have xT:∀ c c' id id',μ c=some id->μ c'=some id'->ja b b' c=ja b b' c'->c=c':=fun c c' id id' h h' e=>by
  have e1:c≠b':=by rintro rfl;rw [tC] at h;cases h
  have e2:c'≠b':=by rintro rfl;rw [tC] at h';cases h'
  unfold ja at e
  split at e<;>split at e<;>first | omega | (subst_vars;first | rfl | (exact absurd rfl (by assumption)) | (exfalso;apply e2;exact e.symm) | (exfalso;apply e1;exact e))
 have hH:∀ c id blk,μ c=some id->L.heap c=some blk->(L.move b b').heap (ja b b' c)=some ⟨blk.sz,du (ja b b') blk.vals,blk.mt⟩:=fun c id blk h g=>by
  by_cases e:c=b
  ·subst e;simp [St.move,ja,g]
  ·have e':c≠b':=by rintro rfl;rw [tC] at h;cases h
   simp [St.move,ja,e,e',g]
 refine⟨ec,bJ,bm,Z,⟨hc.cC,hc.lI,hc.jG,hc.lK,?_,?_,?_,hc.ov,?_,?_,?_,?_⟩,fun t=>bj.bV _ hm (hr t)⟩
 ·intro c c' id h h'
  obtain⟨d,g1,rfl⟩:=hinv c id h
  obtain⟨d',g2,rfl⟩:=hinv c' id h'
  rw [hc.inj d d' id g1 g2]
 ·intro c id h
  obtain⟨d,g1,rfl⟩:=hinv c id h
  exact hc.own d id g1
 ·intro c id h hx
  obtain⟨d,g1,rfl⟩:=hinv c id h
  have:=hc.x0 d id g1 hx
  subst this
  simp [ja,Ne.symm hb]
 ·intro id h
  have:=hm 0 id (hc.x1 id h)
  simpa [ja,Ne.symm hb] using this
 ·intro c id blk h g fj
  obtain⟨d,g1,rfl⟩:=hinv c id h
  obtain⟨b0,j1,j2⟩:=hc.heap d id g1
  rw [hH d id b0 g1 j1] at g;cases g
  exact hc.jx d id b0 g1 j1 fj
 ·intro c id blk h g fj
  obtain⟨d,g1,rfl⟩:=hinv c id h
  obtain⟨b0,j1,j2⟩:=hc.heap d id g1
  rw [hH d id b0 g1 j1] at g;cases g
  exact hc.b9 d id b0 g1 j1 fj
 ·intro c id h
  obtain⟨d,g1,rfl⟩:=hinv c id h
  obtain⟨b0,j1,cc,T,part,rest,q1,q2,q3⟩:=hc.heap d id g1
  exact⟨_,hH d id b0 g1 j1,cc,T,part,rest,q1,q2,aR.bV _ hm _ _ _ q3⟩
theorem awY {b b':Nat} (f:bh->bh) (aX:b≠b'):∀ (l:List (Nat × bh)),(∀ p∈l,p.1≠b')->∀ c,hp (l.map fun p=>(ja b b' p.1,f p.2)) c=if c=b' then(hp l b).map f else if c=b then none else(hp l c).map f
 | [],_,c=>by simp [hp]
 | (d,y) :: t,hl,c=>by
   have ih:=awY f aX t (fun p hp=>hl p (by simp [hp])) c
   have hd:d≠b':=hl (d,y) aT
   have hpc:∀ (e:Nat) (z:bh) (u:List (Nat × bh)) (x:Nat),hp ((e,z) :: u) x=if x=e then some z else hp u x:=fun e z u x=>by
    simp only [hp]
    by_cases h:x=e
    ·simp [h]
    ·have:n8 x e=false:=by rw [<-aat,yb];exact h
     rw [this,if_neg h];rfl
   simp only [nv,hpc,ih]
   by_cases h1:d=b
   ·subst h1
    simp only [ja,if_true]
    by_cases h2:c=b'
    ·simp [h2]
    ·by_cases h3:c=d
     ·subst h3;simp [h2]
     ·simp [h2,h3]
   ·have e1:ja b b' d=d:=by simp [ja,h1]
    rw [e1]
    by_cases h2:c=b'
    ·subst h2
     have:c≠d:=fun e=>hd e.symm
     simp [this,Ne.symm h1]
    ·by_cases h3:c=b
     ·subst h3
      simp [h2,Ne.symm h1]
     ·by_cases h4:c=d
      ·subst h4;simp [h2,h3]
      ·simp [h2,h3,h4]
theorem az.aIA {L:St} {b b':Nat} {l:List (Nat × bh)} (hl:L.heap=hp l) (hb:b≠0) (pA:b'≠0) (aX:b≠b') :
  az L ⟨fun t=>((L.slot t).kill b').bV (ja b b'),hp ((oN b' l).map fun p=>(ja b b' p.1,(⟨p.2.sz,du (ja b b') p.2.vals,p.2.mt⟩:bh)))⟩:=by
 have hk:(L.kill b').heap=hp (oN b' l):=by
  funext c
  rw [agv]
  simp only [St.kill,hl]
 have hn:∀ p∈oN b' l,p.1≠b':=by
  clear hk hl
  induction l with
  | nil=>simp [oN]
  | cons q t ih =>
   obtain⟨d,y⟩:=q
   simp only [oN]
   by_cases h:d=b'
   ·subst h;simpa using ih
   ·have:n8 d b'=false:=by rw [<-aat,yb];exact h
    rw [this]
    simp only [cond_false,fu]
    rintro p (rfl | hp)
    ·exact h
    ·exact ih p hp
 refine(az.kill L b' pA).trans ((az.aCf (b:=b) (b':=b') hb pA aX (by simp [St.kill])).trans (az.of_eq ?_))
 simp only [St.move,St.mk.injEq]
 refine⟨rfl,?_⟩
 funext c
 rw [awY (fun x=>⟨x.sz,du (ja b b') x.vals,x.mt⟩) aX _ hn c,hk]
end
section
variable {Z Z':Nat->Prop} {μ bm:Nat->Option Nat} {w:World}
mutual
theorem LV.aj1 (f:Nat->Nat):∀ (x:LV),(x.bV f).pure=x.pure
 | .any=>rfl
 | .v _=>rfl
 | .list sz l=>by simp only [LV.bV,LV.pure,adK f l]
 | .agg l=>by simp only [LV.bV,LV.pure,adK f l]
 | .ref ..=>rfl
 | .ka ..=>rfl
 | .aB ..=>rfl
 | .cm c=>by simp only [LV.bV,LV.pure,LV.aj1 f c]
 | .dk g l=>by simp only [LV.bV,LV.pure,adK f l]
 | .bf l=>by simp [LV.bV,LV.pure]
theorem adK (f:Nat->Nat):∀ (l:List LV),aN (du f l)=aN l
 | []=>rfl
 | x :: xs=>by simp only [du,aN,LV.aj1 f x,adK f xs]
end
mutual
theorem aC.unren (f:Nat->Nat) (hm:∀ b id,μ (f b)=some id->bm b=some id):∀ (lv:LV) (cs:List Value),aC Z μ w (lv.bV f) cs->aC Z bm w lv cs
 | .any,_,h=>by simpa [aC,LV.bV] using h
 | .v x,cs,h=>by simpa [aC,LV.bV] using h
 | .list sz l,cs,h=>by
   have h9:aN l=true:=by
    simp only [aC,LV.bV] at h
    obtain⟨a,len,cap,h1,h2,h3,h4,h9⟩:=h
    rwa [adK] at h9
   rw [LV.df f (.list sz l) (by simpa [LV.pure] using h9)] at h
   exact aC.kv (fun _ h=>h) (fun _ _=>rfl) _ _ (by simpa [LV.pure] using h9) h
 | .agg l,cs,h=>by
   simp only [aC,LV.bV] at h ⊢
   exact cA.unren f hm l cs h
 | .ref b sz off len,cs,h=>by
   simp only [aC,LV.bV] at h ⊢
   rcases h with h | ⟨id,cap,c,T,fz,h1,h2,h3⟩
   ·exact qj
   exact .inr ⟨id,cap,c,T,fz,h1,hm _ _ h2,h3⟩
 | .ka b sz off len cap,cs,h=>by
   simp only [aC,LV.bV] at h ⊢
   obtain⟨id,c,T,fz,h1,h2,h3⟩:=h
   exact⟨id,c,T,fz,h1,hm _ _ h2,h3⟩
 | .aB b sz i o,cs,h=>by
   simp only [aC,LV.bV] at h ⊢
   obtain⟨id,h1,h2⟩:=h
   exact⟨id,h1,hm _ _ h2⟩
 | .cm c,cs,h=>by
   have h9:c.pure=true:=by
    simp only [aC,LV.bV] at h
    obtain⟨blk,off,cc,T,fz,part,rest,h1,h2,h3,h4,h5,h6,h7⟩:=h
    rwa [LV.aj1] at h7
   rw [LV.df f (.cm c) (by simpa [LV.pure] using h9)] at h
   exact aC.kv (fun _ h=>h) (fun _ _=>rfl) _ _ (by simpa [LV.pure] using h9) h
 | .dk g cap,cs,h=>by
   have h9:aN cap=true:=by
    simp only [aC,LV.bV] at h
    obtain⟨vs,h1,h2,h3⟩:=h
    rwa [adK] at h3
   rw [LV.df f (.dk g cap) (by simpa [LV.pure] using h9)] at h
   exact aC.kv (fun _ h=>h) (fun _ _=>rfl) _ _ (by simpa [LV.pure] using h9) h
 | .bf _,_,h=>by simp [aC,LV.bV] at h
theorem aR.unren (f:Nat->Nat) (hm:∀ b id,μ (f b)=some id->bm b=some id) (sz:Nat):∀ (l:List LV) (cs:List Value),aR Z μ w sz (du f l) cs->aR Z bm w sz l cs
 | [],cs,h=>by simpa [aR,du] using h
 | x :: xs,cs,h=>by
   simp only [aR,du] at h ⊢
   obtain⟨c1,c2,h1,h2,h3,h4⟩:=h
   exact⟨c1,c2,h1,h2,aC.unren f hm x c1 h3,aR.unren f hm sz xs c2 h4⟩
theorem cA.unren (f:Nat->Nat) (hm:∀ b id,μ (f b)=some id->bm b=some id):∀ (l:List LV) (cs:List Value),cA Z μ w (du f l) cs->cA Z bm w l cs
 | [],cs,h=>by simpa [cA,du] using h
 | x :: xs,cs,h=>by
   simp only [cA,du] at h ⊢
   obtain⟨c1,c2,h1,h2,h3,h4⟩:=h
   exact⟨c1,c2,h1,by rw [<-LV.ai6 f];exact h2,aC.unren f hm x c1 h3,cA.unren f hm xs c2 h4⟩
end
theorem fM.unren (f:Nat->Nat) (hm:∀ b id,μ (f b)=some id->bm b=some id) {lv:LV} {v:Value} (h:fM Z μ w (lv.bV f) v):fM Z bm w lv v :=
 ⟨fun e=>let ⟨cs,h1,h2⟩:=h.1 (by rwa [LV.ag1]);⟨cs,h1,aC.unren f hm _ _ h2⟩,fun e=>aC.unren f hm _ _ (h.2 (by rwa [LV.ag1]))⟩
end
def XS.two (i0:Nat) (pU:Nat->Option Nat):XS:=⟨fun k=>k=i0,fun id=>∃ k,k≠0/\pU k=some id⟩
def aaE (P:Program) (f:FuncId) (blk c1:bh) (args:List LV) (r:LV) (blk':bh) (bs:List bh):Prop :=
 aij P f/\∀ (W:World) (Z0:Nat->Prop) (vs:List Value) (i0:Nat) (pU:Nat->Option Nat),(∀ id,Z0 id->id<W.heap.size)->pU 0=some i0 ->
  (∀ k id,pU k=some id->¬ Z0 id/\∃ b,ud blk [c1] k=some b/\uy Z0 pU W b id)->(∀ k k' id,pU k=some id->pU k'=some id->k=k')->fY Z0 pU W args vs ->
  Calls P f vs.toArray W fun e w'=>∃ v μ Z,e=.returned v/\Core W (XS.two i0 pU) Z0 μ Z (ud blk' bs) w'/\bj Z μ w' r v
def akO (P:Program) (rs:List ResultVar) (L:St) (r:LV) (blk':bh) (bs:List bh):Prop :=
 ∃ (xs:List LV) (own:List Nat) (b0:bh),L.heap 0=some b0/\blk'=⟨b0.sz,du (rQ own) b0.vals,b0.mt⟩/\zh P L rs xs/\(∀ x∈xs,x≠.any/\∀ l,x≠.bf l)/\own.Nodup/\0∉own/\(∀ c,c≠0->L.heap c≠none->c∈own) /\
  (∀ (k b:Nat),own[k]?=some b->∃ blk:bh,L.heap b=some blk/\bs[k]?=some ⟨blk.sz,du (rQ own) blk.vals,blk.mt⟩)/\r=ag7 (du (rQ own) xs)
def al0 (P:Program) (rs:List ResultVar) (L:St) (r:LV) (blk':bh) (bs:List bh):Prop:=∃ L0,az L L0/\akO P rs L0 r blk' bs
section
variable {P:Program} {W w w':World} {X X0:XS} {Z0 Z Zr:Nat->Prop} {μ dV:Nat->Option Nat} {H H' Hr:bW} {a:Act} {L L':St} {n d:Nat} {ops:Array Oper} {σ:Nat->Nat}
def StC (args:List LV) (blk c1:bh):St:=⟨fun t=>args.getD t .any,ud blk [c1]⟩
theorem azR (args:List LV) (blk c1:bh):StC args blk c1=St.mk (fun t=>args.getD t .any) (hp [(0,blk),(1,c1)]):=by
 simp only [StC,St.mk.injEq,true_and]
 funext c
 simp only [hp,ud]
 match c with
 | 0=>rfl
 | 1=>rfl
 | c+2=>rw [if_neg ae,pW (show c+2≠0 by omega),pW (show c+2≠1 by omega)];simp
theorem aFO {f:FuncId} {fn:Func} {c:Code} {args:List LV} {r:LV} {blk c1 blk':bh} {bs:List bh} (iH:P.follows .mixedOrders=true) (hf:P.funcs[f]?=some fn) (hb:fn.body=some c)
  (hn:(fn.name== "runtime.NumGoroutine")=false) (hd:lf fn.ntmps c=true) (hlen:args.length<=fn.ntmps) (fj:blk.mt=true) (adl:c1.mt=true)
  (h:cP P c (fun e L=>match e with | .exit _=>False | _=>al0 P fn.results.toList L r blk' bs) (St.mk (fun t=>args.getD t .any) (hp [(0,blk),(1,c1)]))):aaE P f blk c1 args r blk' bs:=by
 rw [<-azR] at h
 refine⟨⟨fn,hf,by rw [hb];rfl,hn⟩,fun W Z0 vs i0 pU hz h0 sJ acN hargs=>?_⟩
 have r7:=abW _ _ hargs
 refine calls_of_wp hf hb ?_
 have aoA:∀ k id,pU k=some id->id<W.heap.size:=fun k id e=>by
  obtain⟨_,bk,_,c,T,part,rest,h1,_⟩:=sJ k id e
  exact(mN.1 h1).1
 have az2:∀ k bk,ud blk [c1] k=some bk->bk.mt=true:=fun k bk e=>by
  unfold ud at e
  split at e
  ·cases e;exact fj
  ·rename_i hk
   have:=sb e
   simp only [iM] at this
   subst this;exact adl
 have o5:fV fn.ntmps W (XS.two i0 pU) Z0 (StC args blk c1) ⟨vs.toArray++qT (fn.ntmps-vs.toArray.size) undef,[]⟩ W:=by
  refine⟨rfl,by simp;omega,pU,Z0,⟨Kept.refl _ _,hz,fun _ h=>h,fun _ h=>.inl h,acN,fun b id e=>?_,fun b id e hx=>?_,fun id e=>?_,fun id e=>?_,fun b id bk e _ _=>(sJ b id e).1,
   fun b id bk e g hm=>?_,fun b id e=>?_⟩,fun t=>?_⟩
  ·by_cases gf:b=0
   ·subst gf;rw [h0] at e;cases e;exact .inr (.inl rfl)
   ·exact .inr (.inr ⟨b,gf,e⟩)
  ·rw [show id=i0 from hx] at e;exact acN _ _ _ e h0
  ·rcases e with e | ⟨k,_,e⟩
   ·rw [show id=i0 from e];exact aoA _ _ h0
   ·exact aoA _ _ e
  ·rw [show id=i0 from e];exact h0
  ·rw [az2 b bk g] at hm;cases hm
  ·exact(sJ b id e).2
  ·have e:vs.toArray++qT (fn.ntmps-vs.toArray.size) undef=(vs++ay (fn.ntmps-vs.toArray.size) undef).toArray:=by apply u9;simp
   show bj Z0 pU W ((zF args).slot t) ((vs.toArray++qT (fn.ntmps-vs.toArray.size) undef).getD t undef)
   rw [e]
   exact ajh args vs _ hargs t
 refine wp_mono (aah iH c _ _ _ _ o5 h hd) fun e a w q=>?_
 have main:∀ L,al0 P fn.results.toList L r blk' bs->fV fn.ntmps W (XS.two i0 pU) Z0 L a w ->
   a.defers=[]/\∃ v,(results fn a.tmps).run P w=.ok v w/\∃ v' μ Z,Ending.returned v=.returned v'/\Core W (XS.two i0 pU) Z0 μ Z (ud blk' bs) w/\bj Z μ w r v':=by
  rintro L ⟨L0,hwk,xs,own,b0,gf,aDW,h1,hx,h2,h3,h4,h5,h6⟩ hsL
  obtain⟨ec,bJ,μ,Z,hc,hr⟩:=hwk _ _ _ _ _ _ hsL
  obtain⟨k1,k2⟩:=hc.aIv (Hr:=ud blk' bs) h2 h3 h4 h5 (fun k hk=>by simp [ud,hk]) (fun id blk e g=>by rw [gf] at g;cases g;simp [ud,aDW])
  obtain⟨us,q1,q2⟩:=aoD (rQ own) k2 hc hr _ _ h1 hx
  have pZ:(fn.results.mapM (zQ a.tmps)).run P w=.ok us.toArray w:=by
   rw [Array.mapM_eq_mapM_toList,Sem.run_map,q1];rfl
  refine⟨ec,(if h:us.toArray.size=1 then us.toArray[0] else .tuple us.toArray),?_,_,_,Z,rfl,k1,?_⟩
  ·rw [akr,Sem.run_bind,pZ]
   rfl
  ·subst h6;exact aCL q2
 cases e with
 | normal=>obtain⟨L,q1,q2⟩:=q;exact main L q1 q2
 | ret=>obtain⟨L,q1,q2⟩:=q;exact main L q1 q2
 | exit id=>obtain⟨L,q1,q2⟩:=q;exact q1.elim
 | _=>exact q.elim
def nmC (b c d:Nat):Nat->Nat:=fun k=>if k=0 then b else if k=1 then c else ef d 0
inductive afZ (H:bW) (σ:Nat->Nat):LV->LV->Prop
 | cE {x y} (h:cV H x y):afZ H σ x y
 | bV {y} (h:y≠.any/\∀ l,y≠.bf l):afZ H σ (y.bV σ) y
inductive afE (H:bW) (σ:Nat->Nat):List LV->List LV->Prop
 | nil:afE H σ [] []
 | cons {x y xs ys} (h:afZ H σ x y) (t:afE H σ xs ys):afE H σ (x :: xs) (y :: ys)
theorem afZ.sound (hc:Core W X Z0 μ Z H w) {x y:LV} {v:Value} (h:afZ H σ x y) (hr:bj Z μ w x v):fM Z (fun k=>μ (σ k)) w y v:=by
 cases h with
 | cE h=>exact cV.abE hc h hr
 | bV hn =>
  refine fM.unren σ (fun _ _ h=>h) ?_
  cases y with
  | any=>exact absurd rfl hn.1
  | bf l=>exact absurd rfl (hn.2 l)
  | _=>exact hr
theorem arP (hc:Core W X Z0 μ Z H w) {ρ:Operand->LV}:∀ (xs:List Operand) (args:List LV),afE H σ (xs.map ρ) args->(∀ x∈xs,bj Z μ w (ρ x) (a.eval x)) ->
  fY Z (fun k=>μ (σ k)) w args (xs.map a.eval)
 | [],_,h,_=>by cases h;rfl
 | x :: xs,_,h,hr=>by
   generalize hq:(x :: xs).map ρ=q at h
   cases h with
   | nil=>cases hq
   | cons h t =>
    simp only [nv,fJ] at hq
    obtain⟨rfl,rfl⟩:=hq
    exact⟨_,_,rfl,h.sound hc (hr x aT),arP hc xs _ t (fun y hy=>hr y (by simp [hy]))⟩
theorem aq2 {f:FuncId} {xs:Array Operand} {uC:Array TypeId} {args:List LV} {r:LV} {b c sz csz:Nat} {vals cvals:List LV} {blk':bh} {bs:List bh} {dst:Option Tmp} {ty:TypeId} {pos:String} {af:Array Edge} {g:Option (Nat × Bool)} (d:Nat)
  (hg:dY ops L ⟨dst,.call ⟨.value (.func f),xs,uC⟩,ty,pos,af,g⟩ true) (vk:b≠c) (v8:c≠0)
  (hb:L.heap b=some ⟨sz,du (nmC b c d) vals,true⟩) (nD:L.heap c=some ⟨csz,du (nmC b c d) cvals,true⟩)
  (ha:afE L.heap (nmC b c d) (xs.toList.map L.ev) args) (hn:Names b (xs.toList.map L.ev))
  (hk:aaE P f ⟨sz,vals,true⟩ ⟨csz,cvals,true⟩ args r blk' bs) (hlen:bs.length<16) (hf:∀ k,k<16->L.heap (ef d k)=none) :
  afl P ops ⟨dst,.call ⟨.value (.func f),xs,uC⟩,ty,pos,af,g⟩ L ((tJ (mD b d) 1 bs ((L.kill c).bO b (some ⟨blk'.sz,du (mD b d) blk'.vals,blk'.mt⟩))).put dst (r.bV (mD b d))):=by
 intro n W X Z0 a w K Q ⟨ec,art,μ,Z,hc,hr⟩ hd hK
 rw [ach hr hg]
 simp only [if_true]
 have iE:∀ t,dst=some t->t<a.tmps.size:=fun t h=>by rw [art];exact hd t h
 obtain⟨i0,pF⟩:=Names.mu (μ:=μ) (Z:=Z) (w:=w) (a:=a) xs.toList hn (fun x _=>lF (L:=L) hr x)
 have hargs:=arP (a:=a) hc xs.toList args ha (fun x _=>lF (L:=L) hr x)
 have fg:(execOp a.eval (Oper.mk dst (.call ⟨.value (.func f),xs,uC⟩) ty pos af g)).run P w=.ok (.enter f (xs.map a.eval)) w:=by
  have:=aim (P:=P) (w:=w) (args:=xs.map a.eval) hk.1
  simp only [execOp,resolve,Act.eval,Deferred.ofValue,Sem.run_bind,Sem.run_pure,Result.andThen_ok,invoke]
  simpa using this
 unfold Oper.wp
 rw [fg,Oper.upon_enter]
 have hun:μ (ef d 0)=none:=uw hc (hf 0 ae)
 have ai0:∀ k id,μ (nmC b c d k)=some id->(k=0/\μ b=some id)\/(k=1/\μ c=some id):=fun k id e=>by
  unfold nmC at e
  split at e
  ·exact .inl ⟨by assumption,e⟩
  ·split at e
   ·exact .inr ⟨by assumption,e⟩
   ·rw [hun] at e;cases e
 have sn:=hc.jx b i0 _ pF hb rfl
 have:=hk.2 w Z (xs.toList.map a.eval) i0 (fun k=>μ (nmC b c d k)) hc.lI (by simpa [nmC] using pF) (fun k id e=>by
  rcases ai0 k id e with⟨rfl,e1⟩ | ⟨rfl,e1⟩
  ·obtain⟨aiz,g1,cc,T,part,rest,q1,q2,q3⟩:=hc.heap b id e1
   rw [hb] at g1;cases g1
   exact⟨hc.jx b id _ e1 hb rfl,_,rfl,cc,T,part,rest,q1,q2,aR.unren _ (fun _ _ h=>h) _ _ _ q3⟩
  ·obtain⟨aiz,g1,cc,T,part,rest,q1,q2,q3⟩:=hc.heap c id e1
   rw [nD] at g1;cases g1
   exact⟨hc.jx c id _ e1 nD rfl,_,rfl,cc,T,part,rest,q1,q2,aR.unren _ (fun _ _ h=>h) _ _ _ q3⟩)
  (fun k k' id e e'=>by
   rcases ai0 k id e with⟨rfl,e1⟩ | ⟨rfl,e1⟩<;>rcases ai0 k' id e' with⟨rfl,e2⟩ | ⟨rfl,e2⟩
   ·rfl
   ·exact absurd (hc.inj _ _ _ e1 e2) vk
   ·exact absurd (hc.inj _ _ _ e2 e1) vk
   ·rfl) hargs
 rw [show (xs.toList.map a.eval).toArray=xs.map a.eval from by apply u9;simp] at this
 refine this.mono ?_
 rintro e w' ⟨v,dV,Zr,rfl,th,hv⟩
 have acN:∀ j j',1<=j->j<j'->j'<1+bs.length->mD b d j≠mD b d j':=fun j j' h1 h2 _ e=>by
  unfold mD at e
  rw [if_neg ae,if_neg ae] at e
  unfold ef at e;omega
 have av8:∀ k id,dV k=some id->k≠0->k<16/\∃ blk,bs[k-1]?=some blk:=fun k id h h0=>by
  obtain⟨bk,q1,_⟩:=th.heap k id h
  simp only [ud,if_neg h0] at q1
  have:=(oC.1 q1).1
  exact⟨ae,bk,q1⟩
 have uL:=hc.kill c v8
 have hinv:∀ e id,ko μ c e=some id->e≠c/\μ e=some id:=fun e id h=>by
  unfold ko at h;split at h
  ·cases h
  ·exact⟨by assumption,h⟩
 have s8:ko μ c b=some i0:=by unfold ko;rw [if_neg vk];exact pF
 obtain⟨h1,h2,h3,h4⟩:=uL.aIi (d:=d) (σ:=mD b d) (H':=(tJ (mD b d) 1 bs ((L.kill c).bO b (some ⟨blk'.sz,du (mD b d) blk'.vals,blk'.mt⟩))).heap) th
  (fun k id h h0=>⟨(av8 k id h h0).1,by unfold mD;rw [if_neg h0],by
   unfold ko;split
   ·rfl
   ·exact uw hc (hf k (av8 k id h h0).1)⟩)
  (fun id e=>by rw [show id=i0 from e];exact⟨s8,sn⟩)
  (fun id ⟨k,k0,e⟩=>by
   rcases ai0 k id e with⟨rfl,e1⟩ | ⟨rfl,e1⟩
   ·exact absurd rfl k0
   ·refine⟨fun e he=>(hinv e id he).1 (hc.inj _ _ _ (hinv e id he).2 e1),hc.jx c id _ e1 nD rfl,?_⟩
    rcases hc.own c id e1 with h | h | h
    ·exact qj
    ·exact absurd (hc.x0 c id e1 h) v8
    ·exact .inr h)
  (fun id h=>by have:=th.x1 i0 rfl;rw [h] at this;cases this;rfl)
  (fun k id bk h g=>by
   by_cases h0:k=0
   ·subst h0
    simp only [ud,if_true,fp] at g;subst g
    rw [ag8 _ _ _ _ (fun j h1 h2 e=>by
     unfold mD at e
     rw [if_pos rfl,if_neg ae] at e
     have:=hf j ae
     rw [<-e,hb] at this;cases this)]
    simp [St.bO,mD]
   ·simp only [ud,if_neg h0] at g
    have:=aq3 (σ:=mD b d) bs 1 ((L.kill c).bO b (some ⟨blk'.sz,du (mD b d) blk'.vals,blk'.mt⟩)) (k-1) bk acN g
    rwa [show 1+(k-1)=k by omega] at this)
  (fun e id h ne=>by
   have aDp:e≠b:=by rintro rfl;rw [s8] at h;cases h;exact ne (.inl rfl)
   rw [ag8 _ _ _ _ (fun j h1 h2 ej=>by
    have hj:=hf j ae
    unfold mD at ej
    rw [if_neg ae] at ej
    subst ej
    have:=(hinv _ _ h).2
    rw [uw hc hj] at this;cases this)]
   simp [St.bO,aDp])
 refine hK _ _ ⟨by rw [put_defers];exact ec,by rw [rm];exact art,_,Zr,by rw [lH];exact h1,?_⟩
 refine rp (L:=tJ (mD b d) 1 bs ((L.kill c).bO b (some ⟨blk'.sz,du (mD b d) blk'.vals,blk'.mt⟩))) iE (fun t=>?_) (hv.bV _ h4)
 rw [axk]
 exact(aei c hr t).mono th.jG h2 h3
end
end Go.Lg
namespace Go.Lg
theorem az.aEc {L:St} {b d sz csz:Nat} {m:Bool} {vals apj:List LV} (aX:b≠d) (hd:L.heap d=none) (hb:L.heap b=some ⟨sz,vals,m⟩)
  (hv:∀ (Z:Nat->Prop) (μ:Nat->Option Nat) (w:World) (part:List Value),aR Z μ w sz vals part->aR Z μ w sz apj part) :
  az L ((L.bO d (some ⟨csz,[],true⟩)).bO b (some ⟨sz,apj,m⟩)):=by
 rintro n W X Z0 a w ⟨ec,bJ,μ,Z,hc,hr⟩
 have lb:∀ id,μ d≠some id:=fun id e=>by rw [uw hc hd] at e;cases e
 refine⟨ec,bJ,μ,Z,⟨hc.cC,hc.lI,hc.jG,hc.lK,hc.inj,hc.own,hc.x0,hc.ov,hc.x1,fun c id blk g1 g2 g3=>?_,fun c id blk g1 g2 g3=>?_,fun c id g1=>?_⟩,hr⟩
 ·simp only [St.bO] at g2
  split at g2
  ·rename_i e;subst e;cases g2;exact hc.jx c id _ g1 hb g3
  ·split at g2
   ·rename_i e;subst e;exact absurd g1 (lb id)
   ·exact hc.jx c id blk g1 g2 g3
 ·simp only [St.bO] at g2
  split at g2
  ·rename_i e;subst e;cases g2;exact hc.b9 c id _ g1 hb g3
  ·split at g2
   ·rename_i e;subst e;exact absurd g1 (lb id)
   ·exact hc.b9 c id blk g1 g2 g3
 ·obtain⟨bk,j1,cc,T,part,rest,j2,j3,j4⟩:=hc.heap c id g1
  simp only [St.bO]
  split
  ·rename_i e;subst e
   rw [hb] at j1;cases j1
   exact⟨_,rfl,cc,T,part,rest,j2,j3,hv _ _ _ _ j4⟩
  ·split
   ·rename_i e;subst e;exact absurd g1 (lb id)
   ·exact⟨bk,j1,cc,T,part,rest,j2,j3,j4⟩
theorem aIL {p q:LV} {d c sz:Nat} (Z:Nat->Prop) (μ:Nat->Option Nat) (w:World) (part:List Value) (h:aR Z μ w sz [.agg [p,.v (.slice none 0 0),q]] part):aR Z μ w sz [.agg [p,.ref d c 0 0,q]] part:=by
 simp only [aR,aC,cA] at h ⊢
 obtain⟨c1,c2,h1,h2,⟨d1,d2,e1,e2,e3,f1,f2,g1,g2,g3,g4⟩,h3⟩:=h
 exact⟨c1,c2,h1,h2,⟨d1,d2,e1,e2,e3,f1,f2,g1,by simpa [LV.aw] using g2,.inl ⟨g3.1,trivial⟩,g4⟩,h3⟩
theorem az.aol {L:St} {t b sz off len cp:Nat} (h:L.slot t=.ka b sz off len cp):az L (L.put (some t) (.ref b sz off len)):=by
 rintro n W X Z0 a w ⟨ec,bJ,μ,Z,hc,hr⟩
 refine⟨ec,bJ,μ,Z,by rw [lH];exact hc,fun s=>?_⟩
 rw [g8]
 split
 ·rename_i dC
  subst dC
  have e:=hr s
  rw [h] at e
  have e3:=e.2 rfl
  simp only [aC] at e3
  obtain⟨id,c,T,fz,q1,q2,q3,q4,q5⟩:=e3
  exact⟨by simp [LV.isAgg],fun _=>by simp only [aC];exact .inr ⟨id,cp,c,T,fz,q1,q2,q3,q4,q5⟩⟩
 ·exact hr s
theorem ayV {P:Program} {f:FuncId} {blk c1 blk':bh} {sz n:Nat} {args:List LV} {r:LV} {bs:List bh} (hn:0<n) (h:∀ cp,n<=cp->aaE P f blk c1 (.ka 1 sz 0 n cp :: args) r blk' bs):aaE P f blk c1 (.ref 1 sz 0 n :: args) r blk' bs:=by
 refine⟨(h n (bp _)).1,fun W Z0 vs i0 pU hz h0 sJ acN hargs=>?_⟩
 obtain⟨v,jT,rfl,hv,arl⟩:=hargs
 have h3:=hv.2 rfl
 simp only [aC] at h3
 rcases h3 with⟨_,e⟩ | ⟨id,cap,c,T,fz,q1,q2,q3,q4,q5⟩
 ·omega
 exact(h cap q3).2 W Z0 (v :: jT) i0 pU hz h0 sJ acN ⟨v,jT,rfl,⟨by simp [LV.isAgg],fun _=>by simp only [aC];exact⟨id,c,T,fz,q1,q2,q3,q4,q5⟩⟩,arl⟩
theorem ao9 {P:Program} {L:St} {t b sz len:Nat} {b0:bh} {l:List (Nat × bh)} {v:List LV} (hs:L.slot t=.ref b sz 0 len) (hl:L.heap=hp l) (h0:hp l 0=some b0) (oh:aN b0.vals=true) (gf:b≠0)
  (abz:∀ c∈l.map (·.1),c≠0->c=b) (h1:hp l b=some ⟨sz,v,true⟩) (hv:aN v=true):akO P [.tmp t] L (.ref 1 sz 0 len) b0 [⟨sz,v,true⟩]:=by
 have hdm:∀ (l:List (Nat × bh)) (c:Nat),hp l c≠none->c∈l.map (·.1):=fun l=>by
  induction l with
  | nil=>exact fun c h=>absurd rfl h
  | cons p t ih =>
   obtain⟨d,y⟩:=p
   intro c h
   by_cases e:c=d
   ·simp [e]
   ·have:n8 c d=false:=by rw [<-aat,yb];exact e
    simp only [hp,this,cond_false] at h
    simp only [nv,fu]
    exact .inr (ih c h)
 have kh:rQ [b] b=1:=by simp [rQ,gf]
 refine⟨[.ref b sz 0 len],[b],b0,by rw [hl];exact h0,by rw [n7 _ _ oh],.cons hs .nil,fun x hx=>by rw [iM.1 hx];exact⟨by simp,by simp⟩,by simp,by simpa using fun e:0=b=>gf e.symm,fun c hc hh=>?_,fun k c hk=>?_,?_⟩
 ·rw [hl] at hh
  exact iM.2 (abz c (hdm l c hh) hc)
 ·cases k with
  | zero =>
   simp only [qo,fp] at hk
   subst hk
   exact⟨⟨sz,v,true⟩,by rw [hl];exact h1,by simp only [qo,n7 _ _ hv]⟩
  | succ k=>simp at hk
 ·simp only [du,LV.bV,kh];rfl
end Go.Lg
end
section
set_option linter.unusedVariables false
set_option linter.unusedSimpArgs false
set_option maxHeartbeats 4000000
namespace Go.Lg
section
variable {P:Program} {W w:World} {X:XS} {Z0 Z:Nat->Prop} {μ:Nat->Option Nat} {a:Act} {n:Nat} {ops:Array Oper}
def apT (P:Program) (l:List Oper) (m:Nat) (K:St->Prop) (L:St):Prop:=∃ o L2,l[m]?=some o/\afl P l.toArray o L L2/\K L2
theorem azc {l:List Oper} {id:Nat} {L:St} {Q:jW->St->Prop} (iH:P.follows .mixedOrders=true) (m:Nat) (hm:yT l.toArray m []=true) (hl:l.length=m+1) (h:opsL P true l.toArray (l.take m) L (apT P l m (Q .normal))):cP P (.region id l.toArray true) Q L:=by
 refine aiB fun n W X Z0 a w hs hd id=>?_
 have iE:∀ o∈l.toArray.toList,∀ t,o.dst=some t->t<n:=fun o ho t ht=>by
  simp only [lf,oR] at hd
  have:=hd o ho
  rw [ht] at this
  simpa using this
 obtain⟨f,f0,fs,o9,L9,k1,k2,k3⟩:=aaO _ _ h
 have bM:(l.take m).length=m:=by rw [eG];omega
 rw [bM] at k2
 unfold yT at hm
 simp only [jq,decide_eq_true_eq,oR,pI] at hm
 obtain⟨⟨⟨wx,h1⟩,h2⟩,h3⟩:=hm
 have g7:∀ i o,l.toArray[i]?=some o->l.toArray.getD i default=o:=fun i o h=>by rw [dB,h];rfl
 have nQ:∀ i o,l.toArray[i]?=some o->i<l.toArray.size:=fun i o h=>(mN.1 h).1
 have bJ:l.toArray.size=m+1:=by simpa using hl
 have o7:=ad1 l.toArray l.toArray.toList [] (fun i=>by simp) (fun i t h=>by simp at h)
 let g:Nat->St:=fun i=>if i<=m then f i else L9
 have gl:∀ i,i<=m->g i=f i:=fun i hi=>if_pos hi
 have gm:g (m+1)=L9:=if_neg ae
 refine al8 (m:=m) (fr:=[]) (f:=g) (K:=Q .normal) (L:=L) iH hs (by rw [gl 0 (b8 _)];exact f0) (fun i o ho hor=>?_) (fun i o ho iR=>?_) (by rw [bJ,gm];exact k3) wx (fun i o h j hj=>?_) (fun i o h xT j hj=>?_) (fun i o h iR=>?_) (fun i j oi oj d hi hj iR l6 aX oJ=>?_) (fun j o hj hjf=>by simp at hjf) iE (fun L' a' w' hk l8=>⟨L',hk,l8⟩)
 ·have hi:i<m:=hor.resolve_right (fun e=>e rfl)
  rw [gl i ae,gl (i+1) ae]
  exact fs i o (by rw [ant,if_pos hi];simpa using ho)
 ·have:i=m:=by have:=nQ i o ho;omega
  subst this
  have lX:l[i]?=some o:=by simpa using ho
  rw [k1] at lX;cases lX
  rw [gl i (bp _),gm]
  exact fun a w K Q hs hd hK=>k2 n W X Z0 a w K Q hs hd hK
 ·have:=(h1 i (nQ i o h)).1 j (by rw [g7 i o h];exact hj)
  simpa using this
 ·have:=(h1 i (nQ i o h)).2
  rw [if_pos xT] at this
  have:=(oR.1 this) j (by simpa using hj)
  simp only [ob,jq,beq_iff_eq,oX] at this
  rcases this with g9 | g9
  ·exact .inl (o7 i j (by simpa using g9))
  ·exact absurd g9.2 aT
 ·have:=(h1 i (nQ i o h)).2
  rw [if_neg ae] at this
  rw [g7 i o h] at this
  simpa using this
 ·have:=h2 i iR j l6
  simp only [ob,beq_iff_eq] at this
  rcases this with h | h
  ·exact absurd h aX
  ·unfold aaG at h
   rw [g7 j oj hj,g7 i oi hi,oJ] at h
   simp only [jq,bne_iff_ne,ne_eq,ob,wY] at h
   refine⟨h.1,fun se=>?_⟩
   rcases h.2 with h' | h'
   ·rw [oX.2 se] at h';cases h'
   ·split
    ·rename_i bM;rw [if_pos bM] at h';exact o7 i j h'
    ·rename_i bM;rw [if_neg bM] at h';exact o7 j i h'
theorem aBC {l:List Oper} {m:Nat} {K:St->Prop} {ops:Array Oper} {o:Oper} {L L2:St} (h1:l[m]?=some o) (h2:afl P l.toArray o L L2) (h3:K L2):opsL P true ops [] L (apT P l m K):=by
 unfold opsL
 exact⟨o,L2,h1,h2,h3⟩
def avL (P:Program) (l:List Oper) (m:Nat) (K:St->Prop) (L:St):Prop:=∃ o L2,l[m]?=some o/\afl P l.toArray o L L2/\opsL P true l.toArray (l.drop (m+1)) L2 K
theorem aDB {l:List Oper} {id:Nat} {L:St} {Q:jW->St->Prop} (iH:P.follows .mixedOrders=true) (m:Nat) (hm:yT l.toArray m []=true) (hl:m<l.length) (h:opsL P true l.toArray (l.take m) L (avL P l m (Q .normal))):cP P (.region id l.toArray true) Q L:=by
 refine aiB fun n W X Z0 a w hs hd id=>?_
 have iE:∀ o∈l.toArray.toList,∀ t,o.dst=some t->t<n:=fun o ho t ht=>by
  simp only [lf,oR] at hd
  have:=hd o ho
  rw [ht] at this
  simpa using this
 obtain⟨f,f0,fs,o9,L9,k1,k2,k3⟩:=aaO _ _ h
 obtain⟨f2,e0,es,ek⟩:=aaO _ _ k3
 have bM:(l.take m).length=m:=by rw [eG];omega
 rw [bM] at k2
 unfold yT at hm
 simp only [jq,decide_eq_true_eq,oR,pI] at hm
 obtain⟨⟨⟨wx,h1⟩,h2⟩,h3⟩:=hm
 have g7:∀ i o,l.toArray[i]?=some o->l.toArray.getD i default=o:=fun i o h=>by rw [dB,h];rfl
 have nQ:∀ i o,l.toArray[i]?=some o->i<l.toArray.size:=fun i o h=>(mN.1 h).1
 have bJ:l.toArray.size=l.length:=by simp
 have o7:=ad1 l.toArray l.toArray.toList [] (fun i=>by simp) (fun i t h=>by simp at h)
 let g:Nat->St:=fun i=>if i<=m then f i else f2 (i-(m+1))
 have gl:∀ i,i<=m->g i=f i:=fun i hi=>if_pos hi
 have gm:∀ i,m<i->g i=f2 (i-(m+1)):=fun i hi=>if_neg ae
 refine al8 (m:=m) (fr:=[]) (f:=g) (K:=Q .normal) (L:=L) iH hs (by rw [gl 0 (b8 _)];exact f0) (fun i o ho hor=>?_) (fun i o ho iR=>?_) (by rw [bJ,gm _ hl,<-List.length_drop];exact ek) wx (fun i o h j hj=>?_) (fun i o h xT j hj=>?_) (fun i o h iR=>?_) (fun i j oi oj d hi hj iR l6 aX oJ=>?_) (fun j o hj hjf=>by simp at hjf) iE (fun L' a' w' hk l8=>⟨L',hk,l8⟩)
 ·have hi:i<m:=hor.resolve_right (fun e=>e rfl)
  rw [gl i ae,gl (i+1) ae]
  exact fs i o (by rw [ant,if_pos hi];simpa using ho)
 ·by_cases hem:i=m
  ·subst hem
   have lX:l[i]?=some o:=by simpa using ho
   rw [k1] at lX;cases lX
   rw [gl i (bp _),gm _ (Nat.lt_succ_self _),pB,e0]
   exact fun a w K Q hs hd hK=>k2 n W X Z0 a w K Q hs hd hK
  ·have dC:=es (i-(m+1)) o (by rw [sA,show m+1+(i-(m+1))=i by omega];simpa using ho)
   rw [gm i ae,gm (i+1) ae,show i+1-(m+1)=i-(m+1)+1 by omega]
   exact fun a w K Q hs hd hK=>acG hs dC hd hK
 ·have:=(h1 i (nQ i o h)).1 j (by rw [g7 i o h];exact hj)
  simpa using this
 ·have:=(h1 i (nQ i o h)).2
  rw [if_pos xT] at this
  have:=(oR.1 this) j (by simpa using hj)
  simp only [ob,jq,beq_iff_eq,oX] at this
  rcases this with g9 | g9
  ·exact .inl (o7 i j (by simpa using g9))
  ·exact absurd g9.2 aT
 ·have:=(h1 i (nQ i o h)).2
  rw [if_neg ae] at this
  rw [g7 i o h] at this
  simpa using this
 ·have:=h2 i iR j l6
  simp only [ob,beq_iff_eq] at this
  rcases this with h | h
  ·exact absurd h aX
  ·unfold aaG at h
   rw [g7 j oj hj,g7 i oi hi,oJ] at h
   simp only [jq,bne_iff_ne,ne_eq,ob,wY] at h
   refine⟨h.1,fun se=>?_⟩
   rcases h.2 with h' | h'
   ·rw [oX.2 se] at h';cases h'
   ·split
    ·rename_i bM;rw [if_pos bM] at h';exact o7 i j h'
    ·rename_i bM;rw [if_neg bM] at h';exact o7 j i h'
theorem aAK {l:List Oper} {m:Nat} {K:St->Prop} {ops:Array Oper} {o:Oper} {L L2:St} (h1:l[m]?=some o) (h2:afl P l.toArray o L L2) (h3:opsL P true l.toArray (l.drop (m+1)) L2 K):opsL P true ops [] L (avL P l m K):=by
 unfold opsL
 exact⟨o,L2,h1,h2,h3⟩
end
end Go.Lg
end
