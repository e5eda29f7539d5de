/- Texts LgY, LgR, LgG of this proof, joined. -/
import Derived.Test.YthcadngkamjpdaaGreatQU2
import Derived.Laws.Cover3
set_option linter.unusedVariables false
set_option linter.unusedSimpArgs false
open BitVec renaming ofInt->tk,toNat_ofNat->aar,toNat_or->al3
open Classical renaming byContradiction->se
open Int renaming ediv_nonneg->asV,fdiv_eq_ediv_of_nonneg->akw,natCast_dvd_natCast->amu,neg_mul->ahJ
open List renaming drop_eq_getElem_cons->xd,drop_of_length_le->kB,drop_zero->ks,foldl->vx,getD_eq_getElem?_getD->bE,getElem?_eq_getElem->bY,getElem?_eq_none->abg,getElem?_set_self->auo,getLast_cons->ap0,getLast_eq_getElem->apy,length_cons->l8,length_take->fQ,map->uL,map_take->w5,mem_cons->ff,not_mem_nil->iq,replicate->aV,set->vZ,take_length->mQ,take_of_length_le->cE,take_succ_eq_append_getElem->abr
open List.cons renaming injEq->gj
open Nat renaming add_comm->mH,add_mul->iw,add_right_comm->ak6,add_sub_cancel->rO,add_zero->mg,beq->u7,beq_eq->aeQ,div_add_mod->yG,div_eq_of_lt->aaM,div_le_self->uO,div_lt_iff_lt_mul->nw,eq_zero_or_pos->ahu,gcd_comm->qj,gcd_dvd_left->aaH,le_div_iff_mul_le->yl,le_max_left->atH,le_max_right->amt,le_of_eq->adz,le_of_lt->xz,le_refl->bF,le_sub_one_of_lt->auY,le_trans->bb,lt_of_le_of_lt->xD,lt_of_lt_of_le->abQ,lt_of_mul_lt_mul_right->awX,lt_trans->aoF,min_eq_left->nt,mod_eq_of_lt->ir,mod_self->awN,mul_add->eA,mul_add_div->awT,mul_assoc->fJ,mul_comm->eH,mul_le_mul->jG,mul_le_mul_left->lr,mul_le_mul_right->eT,mul_left_comm->acF,mul_lt_mul_of_pos_right->aky,mul_mod_mul_right->auD,mul_pos->qn,mul_right_comm->ax0,mul_zero->zC,not_lt->ann,one_mul->ae6,or_comm->arO,pos_of_ne_zero->uN,pow_add->mA,pow_le_pow_right->oy,pow_pos->lC,pow_succ->jw,shiftLeft_add_eq_or_of_lt->alg,shiftLeft_eq->alH,strongRecOn->acP
open Option renaming getD_some->aaC
open Rat renaming div_def->qh,mkRat_add_mkRat->alB,mkRat_self->auq,neg_mkRat->aoW,not_le->axm,num_mkRat->awe,num_nonneg->avn
section
set_option linter.unusedVariables false
set_option linter.unusedSimpArgs false
namespace Go.Lg
def val:List Nat->Nat
 | []=>0
 | x :: xs=>x+4294967296*val xs
def bV (l:List Nat):Prop:=∀ x∈l,x<4294967296
def aaQ:Nat->Nat->List Nat
 | 0,_=>[]
 | k+1,n=>if n=0 then [] else n % 4294967296 :: aaQ k (n/4294967296)
def aq (n:Nat):List Nat:=aaQ n n
theorem aia:∀ k,aaQ k 0=[]
 | 0=>rfl
 | k+1=>by simp [aaQ]
theorem apO:∀ (k j n:Nat),n<=k->n<=j->aaQ k n=aaQ j n
 | 0,j,n,h,_=>by
   have:n=0:=by omega
   subst this;rw [aia,aia]
 | k+1,0,n,_,h=>by
   have:n=0:=by omega
   subst this;rw [aia,aia]
 | k+1,j+1,n,h1,h2=>by
   simp only [aaQ]
   split
   ·rfl
   ·rw [apO k j (n/4294967296) J J]
theorem we:aq 0=[]:=rfl
theorem aaO {n:Nat} (h:0<n):aq n=n % 4294967296 :: aq (n/4294967296):=by
 unfold aq
 obtain⟨k,rfl⟩:∃ k,n=k+1:=⟨n-1,J⟩
 rw [aaQ,if_neg J,apO k ((k+1)/4294967296) _ J (bF _)]
theorem cb (n:Nat):val (aq n)=n:=by
 induction n using acP with
 | _ n ih =>
  by_cases h:n=0
  ·subst h;rfl
  ·rw [aaO J,val,ih (n/4294967296) J];omega
theorem cZ (n:Nat):bV (aq n):=by
 induction n using acP with
 | _ n ih =>
  by_cases h:n=0
  ·subst h;intro x hx;cases hx
  ·rw [aaO J]
   intro x hx
   rcases ff.1 hx with rfl | hx
   ·omega
   ·exact ih _ J x hx
def Can (l:List Nat):Prop:=∀ h:l≠[],l.getLast h≠0
theorem aff (n:Nat):Can (aq n):=by
 induction n using acP with
 | _ n ih =>
  by_cases h:n=0
  ·subst h;intro h;exact absurd rfl h
  ·rw [aaO J]
   intro bj
   by_cases h2:n/4294967296=0
   ·have e:aq (n/4294967296)=[]:=by rw [h2];rfl
    simp only [e,List.getLast_singleton];omega
   ·have as2:aq (n/4294967296)≠[]:=by rw [aaO J];simp
    rw [ap0 as2]
    exact ih _ J as2
theorem ax1 {x:Nat} {xs:List Nat} (h:Can (x :: xs)):Can xs:=fun bj=>by
 have:=h (List.cons_ne_nil _ _)
 rwa [ap0 bj] at this
theorem avR:∀ {l:List Nat},Can l->l≠[]->0<val l
 | [],_,h=>absurd rfl h
 | [x],h,_=>by have:=h aW;simp at this;simp [val];omega
 | x :: y :: l,h,_=>by
   have:=avR (ax1 h) aW
   simp only [val] at this ⊢;omega
theorem avi:∀ {l:List Nat},bV l->Can l->aq (val l)=l
 | [],_,_=>rfl
 | x :: xs,h1,h2=>by
   have hp:=avR h2 aW
   have hx:=h1 x aW
   have ih:=avi (l:=xs) (fun y hy=>h1 y (by simp [hy])) (ax1 h2)
   rw [aaO hp]
   have e1:val (x :: xs) % 4294967296=x:=by simp only [val];omega
   have e2:val (x :: xs)/4294967296=val xs:=by simp only [val];omega
   rw [e1,e2,ih]
theorem ab7:∀ {l:List Nat},bV l->val l<4294967296 ^ l.length
 | [],_=>by simp [val]
 | x :: xs,h=>by
   have ih:=ab7 (l:=xs) (fun y hy=>h y (by simp [hy]))
   have hx:=h x aW
   simp only [val,l8,jw]
   have:val xs+1<=4294967296 ^ xs.length:=ih
   have:=eT 4294967296 this
   omega
theorem aee:∀ (l m:List Nat),val (l++m)=val l+4294967296 ^ l.length*val m
 | [],m=>by simp [val]
 | x :: xs,m=>by
   simp only [List.cons_append,val,aee xs m,l8,jw]
   rw [eA,<-fJ,eH 4294967296 (4294967296 ^ xs.length)];omega
theorem ajo:∀ k,val (aV k 0)=0
 | 0=>rfl
 | k+1=>by simp [List.replicate_succ,val,ajo k]
theorem xf {n k:Nat} (h:n<4294967296 ^ k):(aq n).length<=k:=by
 induction k generalizing n with
 | zero =>
      have:n=0:=by simpa using h
      subst this;simp [we]
 | succ k ih =>
  by_cases h0:n=0
  ·subst h0;simp [we]
  ·rw [aaO J,l8]
   have:=ih (n:=n/4294967296) (by rw [nw J];rwa [<-jw])
   omega
theorem uy {n k:Nat} (h:(aq n).length<=k):n<4294967296 ^ k:=by
 have h1:=ab7 (cZ n)
 rw [cb] at h1
 exact abQ h1 (oy J h)
theorem aqO {n k:Nat}:(aq n).length<=k↔n<4294967296 ^ k:=⟨uy,xf⟩
theorem sk {n:Nat}:aq n=[]↔n=0:=by
 constructor
 ·intro h;have:=cb n;rw [h] at this;exact this.symm
 ·rintro rfl;rfl
theorem aqC {l m:List Nat} (h1:bV l) (h2:bV m):bV (l++m):=fun x hx=>by
 rcases List.mem_append.1 hx with h | h
 ·exact h1 x h
 ·exact h2 x h
theorem xc {l:List Nat} (h:bV l) (k:Nat):bV (l.take k):=fun x hx=>h x (List.mem_of_mem_take hx)
theorem aCl {l:List Nat} (h:bV l) (k:Nat):bV (l.drop k):=fun x hx=>h x (List.mem_of_mem_drop hx)
theorem vH (k:Nat):bV (aV k 0):=fun x hx=>by rw [(List.mem_replicate.1 hx).2];omega
theorem aIr {l:List Nat} (h:bV l) (k:Nat):l.getD k 0<4294967296:=by
 rw [bE]
 cases hq:l[k]? with
 | none=>simp
 | some x=>simpa using h x (List.mem_of_getElem? hq)
theorem aui {l:List Nat} {k:Nat} (h:k<l.length):val (l.take (k+1))=val (l.take k)+4294967296 ^ k*l.getD k 0:=by
 rw [abr h,aee,fQ,nt J,bE,bY h]
 simp [val]
def jh:Nat->List Nat->Nat
 | 0,_=>0
 | n+1,l=>if l.getD n 0=0 then jh n l else n+1
theorem alj:∀ (n:Nat) (l:List Nat),jh n l<=n
 | 0,_=>by simp [jh]
 | n+1,l=>by simp only [jh];split;have:=alj n l;omega;omega
theorem aiy:∀ (n:Nat) (l:List Nat),n<=l.length->Can (l.take (jh n l))/\val (l.take (jh n l))=val (l.take n)
 | 0,l,_=>by simp [jh,Can]
 | n+1,l,h=>by
   simp only [jh]
   split
   ·rename_i h0
    have ih:=aiy n l J
    refine⟨ih.1,ih.2.trans ?_⟩
    rw [aui J,h0];simp
   ·rename_i h0
    refine⟨fun bj=>?_,rfl⟩
    rw [apy]
    simp only [fQ,nt h,rO,List.getElem_take]
    rw [bE,bY J] at h0
    exact h0
def xp (l:List Nat):List Nat:=l.take (jh l.length l)
theorem vq {l:List Nat} (h:bV l):xp l=aq (val l):=by
 have:=aiy l.length l (bF _)
 rw [mQ] at this
 rw [<-this.2]
 exact(avi (xc h _) this.1).symm
def bG (n:Nat):LV:=.v (.int .u32 n)
def eP (n:Int):LV:=.v (.int .i64 n)
theorem fX:gY bG 1 false:=⟨fun _=>rfl,fun _=>rfl,fun _=>rfl⟩
theorem lQ:gY eP 1 false:=⟨fun _=>rfl,fun _=>rfl,fun _=>rfl⟩
def eX (l:List Nat):LV:=.list 1 (l.map bG)
def bp (n:Nat):LV:=.list 1 ((aq n).map bG)
theorem kf (n:Nat):(bp n).pure=true:=by simp only [bp,LV.pure];exact aP fX _
def km (q:Rat):Nat:=if q.den=1 then 0 else q.den
@[irreducible] def aa (q:Rat):LV:=.agg [.v (.bool (decide (q<0))),bp q.num.natAbs,bp (km q)]
theorem vP (q:Rat):aa q=.agg [.v (.bool (decide (q<0))),bp q.num.natAbs,bp (km q)]:=by unfold aa;rfl
theorem an:gY aa 3 true:=by
 refine⟨fun q=>?_,fun q=>?_,fun q=>?_⟩
 ·rw [vP];rfl
 ·rw [vP];rfl
 ·rw [vP];simp [LV.pure,aK,kf]
theorem azy (q:Rat):(aa q).at 0 1 false=some (.v (.bool (decide (q<0)))):=by rw [vP];rfl
theorem aFb (q:Rat):(aa q).at 1 1 false=some (bp q.num.natAbs):=by rw [vP];rfl
theorem aFN (q:Rat):(aa q).at 2 1 false=some (bp (km q)):=by rw [vP];rfl
theorem p7 (q:Rat):(aa q).at 0 3 true=some (aa q):=by
 have:=ahS (aa q) (an.pure q)
 rwa [an.av,an.isAgg] at this
theorem rQ:aa 0=.agg [.v (.bool false),.list 1 [],.list 1 []]:=by rw [vP];rfl
@[irreducible] def aD (s:Rat × Rat):LV:=.agg [aa s.1,aa s.2]
theorem xQ (s:Rat × Rat):aD s=.agg [aa s.1,aa s.2]:=by unfold aD;rfl
theorem bl:gY aD 6 true:=by
 refine⟨fun s=>?_,fun s=>?_,fun s=>?_⟩<;>rw [xQ]<;>simp [LV.av,cL,LV.isAgg,LV.pure,aK,an.av,an.pure]
theorem wi (s:Rat × Rat):(aD s).at 0 6 true=some (aD s):=by
 have:=ahS (aD s) (bl.pure s)
 rwa [bl.av,bl.isAgg] at this
theorem aql (s:Rat × Rat):(aD s).at 0 3 true=some (aa s.1):=by
 rw [xQ];simp [LV.at,tP,cL,an.av,p7]
theorem auP (s:Rat × Rat):(aD s).at 3 3 true=some (aa s.2):=by
 rw [xQ];simp [LV.at,tP,cL,an.av,p7]
theorem cA (q:Rat) (b:Nat):(aa q).kill b=aa q:=LV.nz b _ (an.pure q)
theorem aG {α:Type} {e:α->LV} {sz:Nat} {ag:Bool} (h:gY e sz ag) (b:Nat) (l:List α):bH b (l.map e)=l.map e:=akq b _ (aP h l)
theorem cC (q:Rat × Rat) (b:Nat):(aD q).kill b=aD q:=LV.nz b _ (bl.pure q)
section
variable {Z:Nat->Prop} {μ:Nat->Option Nat} {w:World}
theorem cV {x:Value} (h:x.oneCell'=true):aJ Z μ w (.v x) [x]:=by simp only [aJ];exact⟨trivial,h⟩
theorem aa6 (sz:Nat):aJ Z μ w (.list sz []) [.slice none 0 0]:=by simp only [aJ];exact⟨none,0,0,rfl,rfl,bF _,.inl trivial,rfl⟩
theorem cK {l:List LV} {cs:List Value} (h:cj Z μ w l cs):aJ Z μ w (.agg l) cs:=by simp only [aJ];exact h
theorem cH:cj Z μ w [] []:=by simp only [cj]
theorem aT {x:LV} {xs:List LV} {c1 c2:List Value} (h1:c1.length=x.av) (h2:aJ Z μ w x c1) (h3:cj Z μ w xs c2):cj Z μ w (x :: xs) (c1++c2):=by
 simp only [cj];exact⟨c1,c2,rfl,h1,h2,h3⟩
theorem cI:aJ Z μ w (aa 0) [.bool false,.slice none 0 0,.slice none 0 0]:=by
 rw [rQ]
 exact cK (aT (c1:=[.bool false]) rfl (cV rfl) (aT (c1:=[.slice none 0 0]) rfl (aa6 1) (aT (c1:=[.slice none 0 0]) rfl (aa6 1) cH)))
end
end Go.Lg
namespace Go.Lg
abbrev cX (n:Nat):LV:=.v (.int .u64 ((n:Nat):Int))
abbrev qe (n:Nat):LV:=.v (.int .u32 ((n:Nat):Int))
abbrev ae (n:Nat):LV:=.v (.int .i64 ((n:Nat):Int))
abbrev bL (b:Bool):LV:=.v (.bool b)
abbrev iL (n:Int):LV:=.v (.int .i64 n)
section
variable {a b:Nat}
theorem asP (h:a+b<18446744073709551616):dM .add .u64 (a:Nat) (b:Nat)=some (.int .u64 ((a+b:Nat):Int)):=by
 simp only [dM];rw [IntWalk.u64_in _ J];simp
theorem acw (h:a*b<18446744073709551616):dM .mul .u64 (a:Nat) (b:Nat)=some (.int .u64 ((a*b:Nat):Int)):=by
 simp only [dM]
 have e:((a:Int)*(b:Int))=((a*b:Nat):Int):=by simp
 rw [e,IntWalk.u64_in _ J]
theorem ati (h:b<=a) (h1:a<18446744073709551616):dM .sub .u64 (a:Nat) (b:Nat)=some (.int .u64 ((a-b:Nat):Int)):=by
 simp only [dM];rw [IntWalk.u64_in _ J];congr 2;omega
theorem aeO (h:b<=18446744073709551616):dM .sub .u64 (a:Nat) (b:Nat)=some (.int .u64 (((18446744073709551616+a-b) % 18446744073709551616:Nat):Int)):=by
 simp only [dM];rw [IntKind.wrap_u64];congr 2;omega
theorem aiK (h:0<b) (h1:a<18446744073709551616):dM .quo .u64 (a:Nat) (b:Nat)=some (.int .u64 ((a/b:Nat):Int)):=by
 have e:((a:Int).tdiv (b:Int))=((a/b:Nat):Int):=by simp
 have h2:a/b<=a:=uO a b
 simp only [dM];rw [if_neg J,e,IntWalk.u64_in _ ⟨Int.natCast_nonneg _,J⟩]
theorem aml (h:0<b):dM .rem .u64 (a:Nat) (b:Nat)=some (.int .u64 ((a % b:Nat):Int)):=by
 simp only [dM];rw [if_neg J];congr 2
theorem aeJ (h:a*4294967296<18446744073709551616):pe .shl .u64 (a:Nat) 32=some (.int .u64 ((a*4294967296:Nat):Int)):=by
 have e:(2:Int) ^ min (32:Int).toNat IntKind.u64.bits=4294967296:=by decide
 simp only [pe]
 rw [if_neg J,e,IntWalk.u64_in _ J];simp
theorem aIG:pe .shr .u64 (a:Nat) 32=some (.int .u64 ((a/4294967296:Nat):Int)):=by
 have e:(2:Int) ^ min (32:Int).toNat IntKind.u64.bits=4294967296:=by decide
 simp only [pe]
 rw [if_neg J,e,akw _ J]
 congr 2
theorem aGL:pe .shr .u64 (a:Nat) 63=some (.int .u64 ((a/9223372036854775808:Nat):Int)):=by
 have e:(2:Int) ^ min (63:Int).toNat IntKind.u64.bits=9223372036854775808:=by decide
 simp only [pe]
 rw [if_neg J,e,akw _ J]
 congr 2
theorem aaw (n w:Nat):(tk w (n:Int))=BitVec.ofNat w n:=by simp
theorem orU {x:Nat} (hb:b<4294967296) (hx:x<4294967296):dM .or .u64 ((x*4294967296:Nat):Int) (b:Nat)=some (.int .u64 ((x*4294967296+b:Nat):Int)):=by
 have e:(tk IntKind.u64.bits ((x*4294967296:Nat):Int) ||| tk IntKind.u64.bits (b:Int)).toNat=x*4294967296+b:=by
  rw [aaw,aaw,al3,aar,aar]
  have e1:x*4294967296 % 2 ^ IntKind.u64.bits=x*4294967296:=ir (by show _<18446744073709551616;omega)
  have e2:b % 2 ^ IntKind.u64.bits=b:=ir (by show _<18446744073709551616;omega)
  rw [e1,e2]
  have:=alg (i:=32) (b:=b) (by simpa using hb) x
  rw [alH] at this
  exact this.symm
 simp only [dM,e]
 rw [IntWalk.u64_in _ J]
theorem wrap32:IntKind.u32.wrap (a:Nat)=((a % 4294967296:Nat):Int):=by rw [IntKind.wrap_u32];omega
theorem wrap64 (h:a<18446744073709551616):IntKind.u64.wrap (a:Nat)=(a:Int):=IntWalk.u64_in _ J
theorem uV {x y:Nat} (hx:x<4294967296) (hy:y<4294967296):x*y<=18446744065119617025:=by
 have:=jG (auY hx) (auY hy)
 simpa using this
end
section
variable {P:Program} {H:b9} {ρ:Operand->LV} {S D:TypeId} {x:Operand} {n:Nat} {k':IntKind}
theorem aN.ayA {α:Type} {e:α->LV} {sz:Nat} {l:List α} {T:TypeId} {d:TypeId} {as:Array TypeId} (hx:ρ x=.list sz (l.map e)) (has:as=#[T]) (hT:P.underlying T=some (.slice d)) :
  aN P H ρ (.call ⟨.builtin .len,#[x],as⟩) (ae l.length):=by
 have:=aN.abK (H:=H) hx has hT
 rwa [List.length_map] at this
theorem aN.ayu {d:TypeDesc} (hS:P.underlying S=some d) (hD:P.underlying D=some (.int .u32)) (hx:ρ x=.v (.int k' (n:Nat))):aN P H ρ (.convert S D x) (qe (n % 4294967296)):=by
 have:=aN.conv (H:=H) hS hD hx
 rwa [wrap32] at this
theorem aN.aiZ {d:TypeDesc} (hS:P.underlying S=some d) (hD:P.underlying D=some (.int .u64)) (hx:ρ x=.v (.int k' (n:Nat))) (h:n<18446744073709551616):aN P H ρ (.convert S D x) (cX n):=by
 have:=aN.conv (H:=H) hS hD hx
 rwa [wrap64 h] at this
theorem aN.cvI {d:TypeDesc} {m:Int} (hS:P.underlying S=some d) (hD:P.underlying D=some (.int .i64)) (hx:ρ x=.v (.int k' m)) (h1:-9223372036854775808<=m) (h2:m<=9223372036854775807):aN P H ρ (.convert S D x) (iL m):=by
 have:=aN.conv (H:=H) hS hD hx
 rwa [IntWalk.i64_in _ ⟨h1,h2⟩] at this
end
section
variable {P:Program} {Q:jT->St->Prop} {L L0:St} {K:St->Prop} {dr:Bool} {ops:Array Oper} {l:List Oper}
theorem aIE {d:Nat} {b:Bool} (h:L.slot d=.v (.bool b)) (ht:b=true->opsL P dr ops l L K) (hf:b=false->opsL P dr ops l L K):opsL P dr ops l L K:=by
 cases b with
 | true=>exact ht rfl
 | false=>exact hf rfl
theorem bI {c:Operand} {x y:Code} {b:Bool} (hc:L.ev c=.v (.bool b)) (hb:b=true) (h:cU P x Q L):cU P (.cond c x y) Q L:=alv hc (fun _=>h) (fun e=>by rw [hb] at e;cases e)
theorem dp {c:Operand} {x y:Code} {b:Bool} (hc:L.ev c=.v (.bool b)) (hb:b=false) (h:cU P y Q L):cU P (.cond c x y) Q L:=alv hc (fun e=>by rw [hb] at e;cases e) (fun _=>h)
end
theorem az.own {L:St} {t:Nat} (d sz:Nat) (h:L.slot t=.v (.slice none 0 0)) (hd:L.heap d=none):az L ((L.bU d (some ⟨sz,[],true⟩)).put (some t) (.ref d sz 0 0)):=by
 rintro n W X Z0 a w ⟨eh,bT,μ,Z,hc,hr⟩
 refine⟨eh,bT,μ,Z,?_,fun s=>?_⟩
 ·rw [mz]
  refine hc.aiq fun c id hcd=>?_
  have:c≠d:=by rintro rfl;rw [vF hc hd] at hcd;cases hcd
  simp [St.bU,this]
 ·rw [iI]
  split
  ·rename_i eI
   subst eI
   have e:=hr s
   rw [h] at e
   rw [e.fk]
   exact⟨by simp [LV.isAgg],fun _=>by simp [aJ]⟩
  ·exact hr s
theorem az.any (L:St) (t:Nat):az L (L.put (some t) .any):=by
 rintro n W X Z0 a w ⟨eh,bT,μ,Z,hc,hr⟩
 refine⟨eh,bT,μ,Z,by rw [mz];exact hc,fun s=>?_⟩
 rw [iI]
 split
 ·trivial
 ·exact hr s
def hp:List (Nat × bA)->b9
 | [],_=>none
 | (b,x) :: l,c=>bif u7 c b then some x else hp l c
def ins (b:Nat) (x:bA):List (Nat × bA)->List (Nat × bA)
 | []=>[(b,x)]
 | (c,y) :: l=>bif u7 c b then(b,x) :: l else(c,y) :: ins b x l
def tQ (b:Nat):List (Nat × bA)->List (Nat × bA)
 | []=>[]
 | (c,y) :: l=>bif u7 c b then tQ b l else(c,⟨y.sz,bH b y.vals,y.mt⟩) :: tQ b l
def vD (bs:List Nat):List (Nat × bA)->List (Nat × bA)
 | []=>[]
 | (c,y) :: l=>(c,⟨y.sz,y.vals,y.mt && !bs.contains c⟩) :: vD bs l
theorem beq_eq {a b:Nat} (h:u7 a b=true):a=b:=Nat.eq_of_beq_eq_true h
theorem uU (a:Nat):u7 a a=true:=by rw [aeQ]
theorem pL {a b:Nat} (h:a≠b):u7 a b=false:=by rw [<-Bool.not_eq_true,aeQ];exact h
theorem atF (b:Nat) (x:bA):∀ (l:List (Nat × bA)) (c:Nat),hp (ins b x l) c=if c=b then some x else hp l c
 | [],c=>by
   simp only [ins,hp]
   by_cases h:c=b
   ·subst h;rw [uU];simp
   ·rw [pL h,if_neg h];rfl
 | (d,y) :: l,c=>by
   simp only [ins]
   by_cases tY:d=b
   ·subst tY
    rw [uU]
    simp only [cond_true,hp]
    by_cases h:c=d
    ·subst h;rw [uU];simp
    ·rw [pL h,if_neg h];rfl
   ·rw [pL tY]
    simp only [cond_false,hp,atF b x l c]
    by_cases h:c=d
    ·subst h;rw [uU];simp [tY]
    ·rw [pL h];rfl
theorem ajL (b:Nat):∀ (l:List (Nat × bA)) (c:Nat),hp (tQ b l) c=if c=b then none else(hp l c).map fun blk=>⟨blk.sz,bH b blk.vals,blk.mt⟩
 | [],c=>by simp [tQ,hp]
 | (d,y) :: l,c=>by
   simp only [tQ]
   by_cases tY:d=b
   ·subst tY
    rw [uU]
    simp only [cond_true,ajL d l c,hp]
    by_cases h:c=d
    ·rw [if_pos h,if_pos h]
    ·rw [if_neg h,if_neg h,pL h];rfl
   ·rw [pL tY]
    simp only [cond_false,hp,ajL b l c]
    by_cases h:c=d
    ·subst h;rw [uU];simp [tY]
    ·rw [pL h];rfl
theorem axT (bs:List Nat):∀ (l:List (Nat × bA)) (c:Nat),hp (vD bs l) c=(hp l c).map fun blk=>⟨blk.sz,blk.vals,blk.mt && !bs.contains c⟩
 | [],c=>rfl
 | (d,y) :: l,c=>by
   simp only [vD,hp,axT bs l c]
   by_cases h:c=d
   ·subst h;rw [uU];rfl
   ·rw [pL h];rfl
theorem b1 (s:Nat->LV) (l:List (Nat × bA)) (b:Nat) (x:bA):(St.mk s (hp l)).bU b (some x)=St.mk s (hp (ins b x l)):=by
 simp only [St.bU,St.mk.injEq,true_and];funext c;rw [atF]
theorem b2 (L:St) (t:Nat) (r:LV) (b:Nat) (x:Option bA):(L.put (some t) r).bU b x=(L.bU b x).put (some t) r:=rfl
theorem b3 (s:Nat->LV) (l:List (Nat × bA)) (b:Nat):(St.mk s (hp l)).kill b=St.mk (fun t=>(s t).kill b) (hp (tQ b l)):=by
 simp only [St.kill,St.mk.injEq,true_and];funext c;rw [ajL]
theorem b4 (L:St) (t:Nat) (r:LV) (b:Nat):(L.put (some t) r).kill b=(L.kill b).put (some t) (r.kill b):=by
 simp only [St.kill,St.put,St.mk.injEq,and_true]
 funext s
 cases u7 s t<;>rfl
theorem b5 (s:Nat->LV) (l:List (Nat × bA)) (bs:List Nat):(St.mk s (hp l)).ca bs=St.mk s (hp (vD bs l)):=by
 simp only [St.ca,St.mk.injEq,true_and];funext c;rw [axT]
theorem b6 (L:St) (t:Nat) (r:LV) (bs:List Nat):(L.put (some t) r).ca bs=(L.ca bs).put (some t) r:=rfl
theorem i1 (b:Nat) (x:bA):ins b x []=[(b,x)]:=rfl
theorem i2 (b c:Nat) (x y:bA) (l:List (Nat × bA)) (h:(c==b)=true):ins b x ((c,y) :: l)=(b,x) :: l:=by
 simp only [beq_iff_eq] at h;simp only [ins,h,uU,cond_true]
theorem i3 (b c:Nat) (x y:bA) (l:List (Nat × bA)) (h:(c==b)=false):ins b x ((c,y) :: l)=(c,y) :: ins b x l:=by
 have h':c≠b:=by simpa using h
 simp only [ins,pL h',cond_false]
theorem i4 (b:Nat):tQ b []=[]:=rfl
theorem i5 (b c:Nat) (y:bA) (l:List (Nat × bA)) (h:(c==b)=true):tQ b ((c,y) :: l)=tQ b l:=by
 simp only [beq_iff_eq] at h;simp only [tQ,h,uU,cond_true]
theorem i6 (b c:Nat) (y:bA) (l:List (Nat × bA)) (h:(c==b)=false):tQ b ((c,y) :: l)=(c,⟨y.sz,bH b y.vals,y.mt⟩) :: tQ b l:=by
 have h':c≠b:=by simpa using h
 simp only [tQ,pL h',cond_false]
theorem bJ {L:St} {l:List (Nat × bA)} (h:L.heap=hp l):St.mk L.slot (hp l)=L:=by rw [<-h]
def tv (b:Nat):List (Nat × bA)->List (Nat × bA)
 | []=>[]
 | (c,y) :: l=>bif u7 c b then tv b l else(c,y) :: tv b l
theorem anO (b:Nat):∀ (l:List (Nat × bA)) (c:Nat),hp (tv b l) c=if c=b then none else hp l c
 | [],c=>by simp [tv,hp]
 | (d,y) :: l,c=>by
   simp only [tv]
   by_cases tY:d=b
   ·subst tY
    rw [uU]
    simp only [cond_true,anO d l c,hp]
    by_cases h:c=d
    ·rw [if_pos h,if_pos h]
    ·rw [if_neg h,if_neg h,pL h];rfl
   ·rw [pL tY]
    simp only [cond_false,hp,anO b l c]
    by_cases h:c=d
    ·subst h;rw [uU];simp [tY]
    ·rw [pL h];rfl
theorem bh7 (s:Nat->LV) (l:List (Nat × bA)) (b:Nat):(St.mk s (hp l)).bU b none=St.mk s (hp (tv b l)):=by
 show St.mk s _=_
 congr 1;funext c
 exact(anO b l c).symm
theorem dh1 (b:Nat):tv b []=[]:=rfl
theorem dh2 (b c:Nat) (y:bA) (l:List (Nat × bA)) (h:(c==b)=true):tv b ((c,y) :: l)=tv b l:=by
 have:c=b:=by simpa using h
 subst this;simp only [tv,uU,cond_true]
theorem dh3 (b c:Nat) (y:bA) (l:List (Nat × bA)) (h:(c==b)=false):tv b ((c,y) :: l)=(c,y) :: tv b l:=by
 have:c≠b:=by simpa using h
 simp only [tv,pL this,cond_false]
def ax (P:Program) (f:FuncId) (args:List LV) (r:LV):Prop:=pC P f args r []/\∀ g,r.b7 g=r
section
variable {P:Program} {dr:Bool} {ops:Array Oper} {rest:List Oper} {L:St} {K:St->Prop} {dst:Option Tmp} {ty:TypeId} {pos:String} {af:Array Edge} {g:Option (Nat × Bool)}
theorem bM {f:FuncId} {xs:Array Operand} {as:Array TypeId} {args:List LV} {r:LV} (hg:eE ops L ⟨dst,.call ⟨.value (.func f),xs,as⟩,ty,pos,af,g⟩ true)
  (ha:fH L.heap (xs.toList.map L.ev) args) (hk:ax P f args r) (k:opsL P dr ops rest (L.put dst r) K) :
  opsL P dr ops (⟨dst,.call ⟨.value (.func f),xs,as⟩,ty,pos,af,g⟩ :: rest) L K:=aAW hg ha hk.1 (hk.2 _) k
theorem ac3 {f:FuncId} {xs:Array Operand} {as:Array TypeId} {args:List LV} {r:LV} (bs:List Nat) (hg:eE ops L ⟨dst,.call ⟨.value (.func f),xs,as⟩,ty,pos,af,g⟩ true) (h0:bs.contains 0=false)
  (ha:fH (L.ca bs).heap (xs.toList.map L.ev) args) (hk:ax P f args r) (k:opsL P dr ops rest ((L.ca bs).put dst r) K) :
  opsL P dr ops (⟨dst,.call ⟨.value (.func f),xs,as⟩,ty,pos,af,g⟩ :: rest) L K:=at6 bs hg h0 ha hk.1 (hk.2 _) k
theorem aIN {f:FuncId} {fn:Func} {c:Code} {args:List LV} {r:LV} (iu:P.follows .mixedOrders=true) (hf:P.funcs[f]?=some fn) (hb:fn.body=some c)
  (hn:(fn.name== "runtime.NumGoroutine")=false) (hd:kS fn.ntmps c=true) (hlen:args.length<=fn.ntmps) (ht:∀ g,r.b7 g=r)
  (h:cU P c (fun e L=>match e with | .exit _=>False | _=>qm P fn.results.toList L r []) (St.mk (fun t=>args.getD t .any) (hp []))):ax P f args r:=⟨aym iu hf hb hn hd hlen h,ht⟩
end
theorem aCs {P:Program} {f:FuncId} {fn:Func} {c:Code} {args:List LV} {r:LV} {bs:List bA} (iu:P.follows .mixedOrders=true) (hf:P.funcs[f]?=some fn) (hb:fn.body=some c)
  (hn:(fn.name== "runtime.NumGoroutine")=false) (hd:kS fn.ntmps c=true) (hlen:args.length<=fn.ntmps)
  (h:cU P c (fun e L=>match e with | .exit _=>False | _=>qm P fn.results.toList L r bs) (St.mk (fun t=>args.getD t .any) (hp []))):pC P f args r bs:=aym iu hf hb hn hd hlen h
theorem aBj {P:Program} {f:FuncId} {fn:Func} {c:Code} {args:List LV} {r:LV} {blk blk':bA} (iu:P.follows .mixedOrders=true) (hf:P.funcs[f]?=some fn) (hb:fn.body=some c)
  (hn:(fn.name== "runtime.NumGoroutine")=false) (hd:kS fn.ntmps c=true) (hlen:args.length<=fn.ntmps) (fu:blk.mt=true)
  (h:cU P c (fun e L=>match e with | .exit _=>False | _=>ab5 P fn.results.toList L r blk') (St.mk (fun t=>args.getD t .any) (hp [(0,blk)]))):uv P f blk args r blk':=by
 refine aFR iu hf hb hn hd hlen fu ?_
 have:StM args blk=St.mk (fun t=>args.getD t .any) (hp [(0,blk)]):=by
  simp only [StM,St.mk.injEq,true_and]
  funext c
  simp only [hp]
  by_cases hc:c=0
  ·subst hc;rfl
  ·rw [pL hc,if_neg hc];rfl
 rw [this];exact h
theorem acE {x:LV} (h:x.pure=true):∀ g,x.b7 g=x:=fun g=>LV.cQ g x h
theorem iF {x y:LV} (h:x.pure=true) (h':y.pure=true):∀ g,(LV.a9 [x,y]).b7 g=.a9 [x,y]:=fun g=>by
 simp only [LV.b7,dX,LV.cQ g x h,LV.cQ g y h']
theorem ac6 {x y z:LV} (h:x.pure=true) (h':y.pure=true) (h'':z.pure=true):∀ g,(LV.a9 [x,y,z]).b7 g=.a9 [x,y,z]:=fun g=>by
 simp only [LV.b7,dX,LV.cQ g x h,LV.cQ g y h',LV.cQ g z h'']
theorem yA (l:List Nat):(eX l).pure=true:=cd fX 1 l
theorem t1 (n:Nat):((n:Nat):Int).toNat=n:=rfl
theorem t2 (k:IntKind) (n:Nat):bG n=.v (.int .u32 (n:Nat)):=rfl
theorem axB {L:St} {α:Type} {e:α->LV} {ag:Bool} {bs:List Nat} {b sz len:Nat} {l:List α} {m:Bool} (he:gY e sz ag) (hb:L.heap b=some ⟨sz,l.map e,m⟩) (tw:bs.contains b=true) (hl:len<=l.length) :
  da (L.ca bs).heap (.ref b sz 0 len) (.list sz ((l.take len).map e)):=by
 have:=abV (L:=L) (bs:=bs) (off:=0) (len:=len) hb tw (aP he l) (by simp [hl])
 rwa [ks,<-w5] at this
theorem xS {P:Program} {L:St} {t:Nat} {x y:LV} {blk:bA} (h:L.slot t=x) (hi:wy L.heap 0 x y) (hb:L.heap 0=some blk) (hm:blk.mt=true) (hp:aK blk.vals=true):ab5 P [.tmp t] L y blk :=
 ⟨[x],[y],L.heap,.cons h .nil,b9.le_refl _,.cons hi .nil,hb,hm,hp,rfl⟩
theorem aEC {P:Program} {L:St} {blk:bA} (hb:L.heap 0=some blk) (hm:blk.mt=true) (hp:aK blk.vals=true):ab5 P [] L (.a9 []) blk :=
 ⟨[],[],L.heap,.nil,b9.le_refl _,.nil,hb,hm,hp,rfl⟩
theorem r1 (f:Nat->Nat) (b sz off len:Nat):(LV.ref b sz off len).b7 f=.ref (f b) sz off len:=rfl
theorem r2 (f:Nat->Nat) (b sz i o:Nat):(LV.aF b sz i o).b7 f=.aF (f b) sz i o:=rfl
theorem r3 (f:Nat->Nat) (x:Value):(LV.v x).b7 f=.v x:=rfl
theorem r4 (d k:Nat):dZ d k=1000000+d*16+k:=rfl
section
variable {P:Program} {H:b9} {ρ:Operand->LV} {T E:TypeId} {x z:Operand} {b sz off len h:Nat} {k':IntKind} {ag:Bool}
theorem aN.ahZ (hx:ρ x=.ref b sz off len) (hT:P.underlying T=some (.slice E)) (hE:bK P E sz ag) (iZ:ρ z=.v (.int k' (h:Nat))) (h2:h<=len) (h0:0<len) :
  aN P H ρ (.slice T x none (some z) none) (.ref b sz off h):=by
 have:=aN.wj (P:=P) (H:=H) (ρ:=ρ) (la:=none) (ha:=some z) (a:=0) (h:=h) hx hT hE (fun w hw=>by cases hw) (fun _=>rfl) (fun w hw=>by cases hw;exact⟨_,iZ⟩) (fun h=>by cases h) J h2 h0
 simpa using this
end
end Go.Lg
namespace Go.Lg
abbrev kX:Nat:=4294967296
theorem fU:(default:Nat)=0:=rfl
theorem pv (l:List Nat) (k:Nat):val (l.take (k+1))=val (l.take k)+4294967296 ^ k*l.getD k 0:=by
 by_cases h:k<l.length
 ·exact aui h
 ·have h1:l.take (k+1)=l:=cE J
  have h2:l.take k=l:=cE J
  have h3:l.getD k 0=0:=by rw [bE,abg J];rfl
  rw [h1,h2,h3];simp
theorem acZ (l:List Nat) {k:Nat} (h:l.length<=k):val (l.take k)=val l:=by rw [cE h]
theorem aGM (l:List Nat) (k j x:Nat) (h:k<=j):(l.set j x).take k=l.take k:=by rw [List.take_set_of_le h]
theorem aaS (l:List Nat) (k x:Nat) (h:k<l.length):val ((l.set k x).take (k+1))=val (l.take k)+4294967296 ^ k*x:=by
 rw [pv,aGM _ _ _ _ (bF k),bE,auo h];rfl
theorem mn {l:List Nat} (h:bV l) (k x:Nat) (hx:x<4294967296):bV (l.set k x):=fun y hy=>by
 rcases List.mem_or_eq_of_mem_set hy with hy | rfl
 ·exact h y hy
 ·exact hx
theorem iN {l:List Nat} (h:bV l) (k:Nat):l.getD k 0<4294967296:=aIr h k
theorem asF (l:List Nat) (k x:Nat) (h:k<l.length):(l.set k x).getD k 0=x:=by
 rw [bE,auo h];rfl
theorem getD_set_ne (l:List Nat) (k j x:Nat) (h:k≠j):(l.set k x).getD j 0=l.getD j 0:=by
 rw [bE,bE,List.getElem?_set_ne h]
theorem uF (l:List Nat) (k:Nat) (h:l.length<=k):l.getD k 0=0:=by
 rw [bE,abg h];rfl
theorem abT (p s:Nat):p*(s % 4294967296)+p*4294967296*(s/4294967296)=p*s:=by
 rw [fJ,<-eA,Nat.mod_add_div]
theorem ix (n k:Nat):(aq n).getD k 0<4294967296:=iN (cZ n) k
theorem nL {m n:Nat} (h:m<=n):(aq m).length<=(aq n).length:=by
 apply xf
 have:=ab7 (cZ n);rw [cb] at this;omega
theorem tE {l:List Nat} (h:bV l) {k:Nat} (hk:l.length<=k):val l<4294967296 ^ k :=
 abQ (ab7 h) (oy J hk)
theorem aiR:aq 1=[1]:=rfl
theorem ac0 {n:Nat} (h0:0<n) (h:n<4294967296):aq n=[n]:=by
 rw [aaO h0,ir h,aaM h];rfl
theorem tF {n:Nat}:(aq n).length<=1↔n<4294967296:=aqO
theorem zJ {n:Nat}:(aq n).length<=2↔n<18446744073709551616:=by
 rw [aqO]
theorem val_two (x y:Nat):val [x,y]=x+4294967296*y:=by simp [val]
theorem afo {l:List Nat} (h:Can l) (bj:0<l.length):l.getD (l.length-1) 0≠0:=by
 have h1:l≠[]:=by rintro rfl;simp at bj
 have:=h h1
 rw [apy] at this
 rw [bE,bY J]
 exact this
end Go.Lg
namespace Go.Lg
theorem oS {l:List Nat} {k:Nat} (h:k<l.length):val (l.drop k)=l.getD k 0+4294967296*val (l.drop (k+1)):=by
 rw [xd h,val,bE,bY h];rfl
theorem atl {l:List Nat} {k x:Nat} (h:k<l.length):val ((l.set k x).drop k)=x+4294967296*val (l.drop (k+1)):=by
 rw [oS nP,asF _ _ _ h,List.drop_set_of_lt J]
theorem apq {l:List Nat} (h:bV l) {k j:Nat} (hk:l.length<=k+j):val (l.drop k)<4294967296 ^ j :=
 tE (aCl h k) bq
theorem adI {l:List Nat} {k x:Nat} (h:k<l.length):val (l.set k x)+4294967296 ^ k*l.getD k 0=val l+4294967296 ^ k*x:=by
 induction l generalizing k with
 | nil=>simp at h
 | cons a l ih =>
  cases k with
  | zero=>simp [val];omega
  | succ k =>
   have:=ih (k:=k) nP
   simp only [List.set_cons_succ,val,List.getD_cons_succ,jw]
   have e1:4294967296 ^ k*4294967296*l.getD k 0=4294967296*(4294967296 ^ k*l.getD k 0):=by rw [eH (4294967296 ^ k),fJ]
   have e2:4294967296 ^ k*4294967296*x=4294967296*(4294967296 ^ k*x):=by rw [eH (4294967296 ^ k),fJ]
   rw [e1,e2];omega
theorem tp (l:List Nat) (k:Nat) (h:k<=l.length):val l=val (l.take k)+4294967296 ^ k*val (l.drop k):=by
 have:=aee (l.take k) (l.drop k)
 rwa [List.take_append_drop,fQ,nt h] at this
def lL (m n:Nat):Int:=if m<n then -1 else if n<m then 1 else 0
theorem qq {m n:Nat} (h:m<n):lL m n=-1:=by simp [lL,h]
theorem sY {m n:Nat} (h:n<m):lL m n=1:=by simp [lL,h];omega
theorem tZ {m n:Nat} (h:m=n):lL m n=0:=by simp [lL,h]
theorem agR {m n:Nat} (h:(aq m).length<(aq n).length):m<n:=by
 have h1:=ab7 (cZ m);rw [cb] at h1
 apply se
 intro h2
 have:=nL (Nat.le_of_not_lt h2)
 omega
theorem aiT {a b:List Nat} (ha:bV a) {k:Nat} (hk:k<a.length) (qJ:k<b.length) (hd:a.drop (k+1)=b.drop (k+1)) (h:a.getD k 0<b.getD k 0):val a<val b:=by
 rw [tp a k J,tp b k J,oS hk,oS qJ,hd]
 have h1:val (a.take k)<4294967296 ^ k:=tE (xc ha k) bq
 have h2:4294967296 ^ k*(a.getD k 0+1)<=4294967296 ^ k*b.getD k 0:=lr _ h
 rw [eA,eA]
 rw [eA] at h2
 omega
theorem ard {a b:List Nat} {k:Nat} (hk:k<a.length) (qJ:k<b.length) (hd:a.drop (k+1)=b.drop (k+1)) (h:a.getD k 0=b.getD k 0):a.drop k=b.drop k:=by
 rw [xd hk,xd qJ,hd]
 rw [bE,bY hk,bE,bY qJ] at h
 simp only [aaC] at h
 rw [h]
theorem azJ {a b:List Nat} {k:Nat} (hk:k<a.length) (qJ:k<b.length) (hd:a.take k=b.take k) (h:a.getD k 0=b.getD k 0):a.take (k+1)=b.take (k+1):=by
 rw [abr hk,abr qJ,hd]
 rw [bE,bY hk,bE,bY qJ] at h
 simp only [aaC] at h
 rw [h]
theorem aqw {k c:Nat} {a b o:List Nat} (dj:k<o.length) (hv:val (o.take k)+4294967296 ^ k*c=val (a.take k)+val (b.take k)) {s:Nat} (hs:s=c+a.getD k 0+b.getD k 0) :
  val ((o.set k (s % 4294967296)).take (k+1))+4294967296 ^ (k+1)*(s/4294967296)=val (a.take (k+1))+val (b.take (k+1)):=by
 rw [aaS _ _ _ dj,pv a,pv b,jw]
 have h1:=abT (4294967296 ^ k) s
 have h2:4294967296 ^ k*s=4294967296 ^ k*c+4294967296 ^ k*a.getD k 0+4294967296 ^ k*b.getD k 0:=by rw [hs,eA,eA]
 omega
theorem azm {c:Nat} {a b o:List Nat} (hba:b.length<=a.length) (dj:o.length=a.length+1) (cq:bV o) (hc:c<4294967296) (hv:val (o.take a.length)+4294967296 ^ a.length*c=val (a.take a.length)+val (b.take a.length)) :
  xp (o.set a.length c)=aq (val a+val b):=by
 rw [vq (mn cq _ _ hc)]
 congr 1
 have h1:=aaS o a.length c J
 rw [cE bq] at h1
 rw [acZ a (bF _),acZ b hba] at hv
 omega
theorem asz {k br:Nat} {a b o:List Nat} (dj:k<o.length) (hv:val (o.take k)+val (b.take k)=val (a.take k)+4294967296 ^ k*br) {y:Nat} (hy:y=br+b.getD k 0) (h:y<=a.getD k 0) :
  val ((o.set k (a.getD k 0-y)).take (k+1))+val (b.take (k+1))=val (a.take (k+1))+4294967296 ^ (k+1)*0:=by
 rw [aaS _ _ _ dj,pv a,pv b]
 have h2:4294967296 ^ k*a.getD k 0=4294967296 ^ k*(a.getD k 0-y)+4294967296 ^ k*br+4294967296 ^ k*b.getD k 0:=by
  rw [<-eA,<-eA];congr 1;omega
 omega
theorem at9 {k br:Nat} {a b o:List Nat} (dj:k<o.length) (hv:val (o.take k)+val (b.take k)=val (a.take k)+4294967296 ^ k*br) {y:Nat} (hy:y=br+b.getD k 0) (h:a.getD k 0<y) (hy2:y<=4294967296) :
  val ((o.set k (4294967296+a.getD k 0-y)).take (k+1))+val (b.take (k+1))=val (a.take (k+1))+4294967296 ^ (k+1)*1:=by
 rw [aaS _ _ _ dj,pv a,pv b,jw]
 have h2:4294967296 ^ k*4294967296+4294967296 ^ k*a.getD k 0=4294967296 ^ k*(4294967296+a.getD k 0-y)+4294967296 ^ k*br+4294967296 ^ k*b.getD k 0:=by
  rw [<-eA,<-eA,<-eA];congr 1;omega
 omega
theorem asU {br:Nat} {a b o:List Nat} (fS:bV a) (cq:bV o) (dj:o.length=a.length) (oN:b.length<=a.length) (hle:val b<=val a)
  (hv:val (o.take a.length)+val (b.take a.length)=val (a.take a.length)+4294967296 ^ a.length*br):xp o=aq (val a-val b):=by
 rw [vq cq]
 congr 1
 rw [acZ a (bF _),acZ b oN,acZ o J] at hv
 have h1:=ab7 cq
 rw [dj] at h1
 cases br with
 | zero=>omega
 | succ n =>
  rw [Nat.mul_succ] at hv
  omega
theorem awC {i j c x:Nat} {b o:List Nat} {v0:Nat} (dj:i+j<o.length) (hv:val o+4294967296 ^ (i+j)*c=v0+4294967296 ^ i*(x*val (b.take j))) {s:Nat}
  (hs:s=c+(x*b.getD j 0+o.getD (i+j) 0)) :
  val (o.set (i+j) (s % 4294967296))+4294967296 ^ (i+(j+1))*(s/4294967296)=v0+4294967296 ^ i*(x*val (b.take (j+1))):=by
 have h1:=adI (x:=s % 4294967296) dj
 have h2:=abT (4294967296 ^ (i+j)) s
 have h3:4294967296 ^ i*(x*val (b.take (j+1)))=4294967296 ^ i*(x*val (b.take j))+4294967296 ^ (i+j)*(x*b.getD j 0):=by
  rw [pv,eA,eA,mA]
  congr 1
  rw [acF x,fJ]
 have h4:4294967296 ^ (i+j)*s=4294967296 ^ (i+j)*c+4294967296 ^ (i+j)*(x*b.getD j 0)+4294967296 ^ (i+j)*o.getD (i+j) 0:=by
  rw [hs,eA,eA];omega
 have h5:4294967296 ^ (i+(j+1))=4294967296 ^ (i+j)*4294967296:=by rw [<-Nat.add_assoc,jw]
 rw [h3,h5]
 omega
theorem aqR {i c x:Nat} {a b o:List Nat} {v0:Nat} (_hi:i<a.length) (dj:i+b.length<o.length) (h0:o.getD (i+b.length) 0=0) (hx:x=a.getD i 0) (hv0:v0=val (a.take i)*val b)
  (hv:val o+4294967296 ^ (i+b.length)*c=v0+4294967296 ^ i*(x*val (b.take b.length))) :
  val (o.set (i+b.length) c)=val (a.take (i+1))*val b:=by
 have h1:=adI (x:=c) dj
 rw [mQ] at hv
 have h2:val (a.take (i+1))*val b=v0+4294967296 ^ i*(x*val b):=by
  rw [pv,iw,hv0,hx,fJ]
 rw [h2]
 rw [h0] at h1
 omega
theorem aqf {k d r:Nat} {a q:List Nat} (hk:k<a.length) (hq:q.length=a.length) (hv:val (q.drop (k+1))*d+r=val (a.drop (k+1))) {s:Nat} (hs:s=r*4294967296+a.getD k 0) :
  val ((q.set k (s/d)).drop k)*d+s % d=val (a.drop k):=by
 rw [atl J,oS hk,<-hv,iw]
 have:=yG s d
 rw [eH (s/d)]
 rw [eA,hs] at *
 have e:4294967296*val (q.drop (k+1))*d=4294967296*(val (q.drop (k+1))*d):=by rw [fJ]
 rw [e]
 omega
theorem apk {d r x:Nat} (hr:r<d) (hx:x<4294967296):(r*4294967296+x)/d<4294967296:=by
 rw [nw J]
 have:(r+1)*4294967296<=d*4294967296:=eT _ hr
 rw [eH 4294967296];omega
theorem arC {d r:Nat} {a q:List Nat} (hd:0<d) (hr:r<d) (hq:bV q) (hv:val (q.drop 0)*d+r=val (a.drop 0)):xp q=aq (val a/d)/\r=val a % d:=by
 rw [ks,ks] at hv
 rw [vq hq,<-hv]
 refine⟨?_,?_⟩
 ·congr 1
  rw [eH,awT hd,aaM hr];rfl
 ·rw [eH,Nat.mul_add_mod,ir hr]
theorem aAb {k c p:Nat} {a o:List Nat} (dj:k<o.length) (hv:val (o.take k)+4294967296 ^ k*c=val (a.take k)*p) {s:Nat} (hs:s=a.getD k 0*p+c) :
  val ((o.set k (s % 4294967296)).take (k+1))+4294967296 ^ (k+1)*(s/4294967296)=val (a.take (k+1))*p:=by
 rw [aaS _ _ _ dj,pv a,jw,iw]
 have h1:=abT (4294967296 ^ k) s
 have h2:4294967296 ^ k*s=4294967296 ^ k*(a.getD k 0*p)+4294967296 ^ k*c:=by rw [hs,eA]
 have h3:4294967296 ^ k*a.getD k 0*p=4294967296 ^ k*(a.getD k 0*p):=by rw [fJ]
 omega
theorem aFf {c p:Nat} {a o:List Nat} (dj:o.length=a.length+1) (hv:val (o.take a.length)+4294967296 ^ a.length*c=val (a.take a.length)*p):val (o.set a.length c)=val a*p:=by
 have h1:=aaS o a.length c J
 rw [cE bq] at h1
 rw [acZ a (bF _)] at hv
 omega
def dK (n:Nat):Nat:=if n=0 then 0 else n.log2+1
theorem wZ {n:Nat}:dK n=0↔n=0:=by unfold dK;split<;>simp_all
theorem vK {n k:Nat}:dK n<=k↔n<2 ^ k:=by
 unfold dK
 split
 ·rename_i h;subst h;simp [lC]
 ·rename_i h
  rw [Nat.succ_le_iff,Nat.log2_lt h]
theorem akS {n k:Nat}:k<dK n↔2 ^ k<=n:=by
 rw [<-Nat.not_le,vK,ann]
theorem aDa {n:Nat}:dK n=1↔n=1:=by
 have h1:=vK (n:=n) (k:=1)
 have h0:=wZ (n:=n)
 simp only [Nat.pow_one] at h1
 omega
theorem aI0 {n k:Nat} (h1:2 ^ k<=n) (h2:n<2 ^ (k+1)):dK n=k+1:=by
 have a:=akS.2 h1
 have b:=vK.2 h2
 omega
theorem ai0 {n k:Nat} (h:2 ^ k<=n):dK n=k+dK (n/2 ^ k):=by
 have hp:0<2 ^ k:=lC J
 have h0:n/2 ^ k≠0:=by
  intro e
  rw [Nat.div_eq_zero_iff] at e
  omega
 have h1:0<dK (n/2 ^ k):=by
  rcases ahu (dK (n/2 ^ k)) with e | e
  ·exact absurd (wZ.1 e) h0
  ·exact e
 obtain⟨j,hj⟩:∃ j,dK (n/2 ^ k)=j+1:=⟨_,(Nat.sub_add_cancel h1).symm⟩
 have h2:2 ^ j<=n/2 ^ k:=akS.1 J
 have h3:n/2 ^ k<2 ^ (j+1):=vK.1 J
 rw [yl hp,<-mA] at h2
 rw [nw hp,<-mA] at h3
 rw [hj]
 have:=aI0 (n:=n) (k:=k+j) (by rwa [mH k]) (by rwa [mH k,ak6])
 omega
theorem aBH {l:List Nat} (hL:bV l) (h:Can l) (hl:0<l.length):dK (val l)=32*(l.length-1)+dK (l.getD (l.length-1) 0):=by
 have bj:=afo h hl
 have hp:0<4294967296 ^ (l.length-1):=lC J
 have hd:val (l.drop (l.length-1))=l.getD (l.length-1) 0:=by
  rw [oS J,show l.length-1+1=l.length by omega,List.drop_length];simp [val]
 have hs:=tp l (l.length-1) J
 have ht:val (l.take (l.length-1))<4294967296 ^ (l.length-1):=tE (xc hL _) aW
 rw [hd] at hs
 have apP:(2:Nat) ^ (32*(l.length-1))=4294967296 ^ (l.length-1):=by rw [Nat.pow_mul]
 have kP:4294967296 ^ (l.length-1)*1<=4294967296 ^ (l.length-1)*l.getD (l.length-1) 0:=lr _ J
 rw [ai0 (k:=32*(l.length-1)) (by rw [apP];omega),apP]
 congr 2
 rw [hs,mH,awT hp,aaM ht];rfl
end Go.Lg
namespace Go.Lg
section
variable {a b s x c:Nat}
theorem avQ (hs:s<64) (h:a*2 ^ s<18446744073709551616):pe .shl .u64 (a:Nat) (s:Nat)=some (.int .u64 ((a*2 ^ s:Nat):Int)):=by
 have e:min ((s:Int)).toNat IntKind.u64.bits=s:=by show min s 64=s;omega
 have e2:(a:Int)*2 ^ s=((a*2 ^ s:Nat):Int):=by simp
 simp only [pe]
 rw [if_neg J,e,e2,IntWalk.u64_in _ J]
theorem aes {k:IntKind} {m:Nat} (hm:m<=k.bits):pe .shr k (a:Nat) (m:Nat)=some (.int k ((a/2 ^ m:Nat):Int)):=by
 have e:min ((m:Int)).toNat k.bits=m:=by show min m k.bits=m;omega
 simp only [pe]
 rw [if_neg J,e,akw _ (Int.pow_nonneg J)]
 congr 2
theorem orV (hc:c<2 ^ s) (h:x*2 ^ s+c<18446744073709551616):dM .or .u64 (c:Nat) ((x*2 ^ s:Nat):Int)=some (.int .u64 ((x*2 ^ s+c:Nat):Int)):=by
 have e:(tk IntKind.u64.bits (c:Int) ||| tk IntKind.u64.bits ((x*2 ^ s:Nat):Int)).toNat=x*2 ^ s+c:=by
  rw [aaw,aaw,al3,aar,aar]
  have e1:x*2 ^ s % 2 ^ IntKind.u64.bits=x*2 ^ s:=ir (by show _<18446744073709551616;omega)
  have e2:c % 2 ^ IntKind.u64.bits=c:=ir (by show _<18446744073709551616;omega)
  rw [e1,e2,arO]
  have:=alg (i:=s) (b:=c) hc x
  rw [alH] at this
  exact this.symm
 simp only [dM,e]
 rw [IntWalk.u64_in _ J]
theorem tbl {s:ByteArray} (h:(List.range 256).all (fun n=>s[n]?==some (UInt8.ofNat (dK n)))=true) {n:Nat} (hn:n<256):s[n]?=some (UInt8.ofNat (dK n)):=by
 rw [List.all_eq_true] at h
 simpa using h n (by simpa using hn)
end
def iC:Nat->Nat->List Nat
 | 0,_=>[]
 | k+1,m=>m % 4294967296 :: iC k (m/4294967296)
theorem ac1:∀ k m,(iC k m).length=k
 | 0,_=>rfl
 | k+1,m=>by simp [iC,ac1 k]
theorem aos:∀ k m,bV (iC k m)
 | 0,_=>fun x h=>by simp [iC] at h
 | k+1,m=>fun x h=>by
   simp only [iC,ff] at h
   rcases h with rfl | h
   ·omega
   ·exact aos k _ x h
theorem ajp:∀ {o:List Nat} {k:Nat},bV o->o.length=k->o=iC k (val o)
 | [],k,_,h=>by subst h;rfl
 | x :: xs,k,hl,h=>by
   subst h
   have hx:=hl x aW
   have ih:=ajp (o:=xs) (k:=xs.length) (fun y hy=>hl y (by simp [hy])) rfl
   simp only [l8,iC,val]
   have e1:(x+4294967296*val xs) % 4294967296=x:=by omega
   have e2:(x+4294967296*val xs)/4294967296=val xs:=by omega
   rw [e1,e2,<-ih]
theorem anQ:∀ {k m:Nat},m<4294967296 ^ k->val (iC k m)=m
 | 0,m,h=>by simp at h;subst h;rfl
 | k+1,m,h=>by
   simp only [iC,val]
   rw [anQ (k:=k) (by rw [nw J];rwa [jw] at h)]
   omega
section
variable {P:Program} {ρ:Operand->LV} {α:Type} {e:α->LV}
theorem dA.wO {T E:TypeId} {x y:Operand} {d sz:Nat} {ag:Bool} {z a b:α} (he:gY e sz ag) (hT:P.underlying T=some (.slice E)) (hz:cF P E (e z)) (hE:bK P E sz ag) (hx:ρ x=e a) (hy:ρ y=e b) (dx:0<sz) (il:sz<=1000) :
  dA P ρ d (.buildSlice T 2 #[(0,x),(1,y)]) (.ref d sz 0 2) ⟨sz,[a,b].map e,true⟩:=by
 have:=dA.lit (P:=P) (ρ:=ρ) (d:=d) (T:=T) (n:=2) (ps:=#[(0,x),(1,y)]) hT hz (by rw [he.isAgg];exact hE) (he.av z) J J dx (by
  intro p hp
  simp only [ff,iq,or_false] at hp
  rcases hp with rfl | rfl
  ·refine⟨by simp,?_,by rw [hx];exact LV.dT (he.pure _),by rw [hx];exact LV.dG (he.pure _)⟩
   simp [lay,hx,he.av,he.isAgg]
  ·refine⟨by simp,?_,by rw [hy];exact LV.dT (he.pure _),by rw [hy];exact LV.dG (he.pure _)⟩
   simp [lay,hy,he.av,he.isAgg])
 simpa [jK,hx,hy,aV] using this
end
section
variable {P:Program} {n:Nat} {W w:World} {X:XS} {Z0:Nat->Prop} {L:St} {a:Act} {K:St->Prop} {Q:jT->St->Prop}
theorem aC4 {s0 d1 d2 sz:Nat} {l:List LV} {T E ty ty' U:TypeId} {pos pos':String} {af af':Array Edge} (h0:L.slot s0=.list sz l) (hT:P.underlying T=some (.slice E))
  (hK:∀ b:Bool,(b=true->l=[])->Q .normal ((L.put (some d1) (.list sz l)).put (some d2) (.v (.bool b)))) :
  ∀ n W X Z0 a w,fT n W X Z0 L a w->kS n (.region 0 [Oper.mk (some d1) (.move (.tmp s0)) ty pos af none,Oper.mk (some d2) (.binOp .eql T (.tmp d1) (.const (.slice none 0 0)) U) ty' pos' af' none].toArray false)=true ->
   ∀ id,(Code.region id [Oper.mk (some d1) (.move (.tmp s0)) ty pos af none,Oper.mk (some d2) (.binOp .eql T (.tmp d1) (.const (.slice none 0 0)) U) ty' pos' af' none].toArray false).wp P (aco n W X Z0 Q) a w:=by
 intro n W X Z0 a w hs hd id
 simp only [kS,List.all_cons,List.all_nil,Bool.and_true,Bool.and_eq_true,decide_eq_true_eq] at hd
 refine wp_region_list ?_
 have h1:=acn (P:=P) (dr:=false) (ops:=[Oper.mk (some d1) (.move (.tmp s0)) ty pos af none,Oper.mk (some d2) (.binOp .eql T (.tmp d1) (.const (.slice none 0 0)) U) ty' pos' af' none].toArray)
  (o:=Oper.mk (some d1) (.move (.tmp s0)) ty pos af none) hs (L':=L.put (some d1) (.list sz l))
  (.val (r:=.list sz l) (fr:=[]) (H1:=L.heap) rfl (b9.le_refl _) (fun _ _ h=>by cases h) (.pure (by have:=aN.move (P:=P) (H:=L.heap) (ρ:=L.ev) (.tmp s0);rwa [show L.ev (.tmp s0)=LV.list sz l from h0] at this)) rfl)
  (fun t ht=>by cases ht;exact hd.1)
  (K:=wpList P [Oper.mk (some d1) (.move (.tmp s0)) ty pos af none,Oper.mk (some d2) (.binOp .eql T (.tmp d1) (.const (.slice none 0 0)) U) ty' pos' af' none].toArray (aco n W X Z0 Q)
   [Oper.mk (some d2) (.binOp .eql T (.tmp d1) (.const (.slice none 0 0)) U) ty' pos' af' none]) (Q:=aco n W X Z0 Q) (fun a' w' jO=>?_)
 ·unfold wpList
  split
  ·rename_i h;rw [if_pos h] at h1;exact .inl h1
  ·rename_i h;rw [if_neg h] at h1;exact h1
 ·obtain⟨eh,bT,μ,Z,hc,hr⟩:=jO
  have e1:=hr d1
  rw [iI,if_pos rfl] at e1
  have e2:=e1.2 rfl
  simp only [aJ] at e2
  obtain⟨ad,len,cap,q1,q2,q3,q4,q5⟩:=e2
  simp only [gj,and_true] at q1
  have ie:a'.eval (.tmp d1)=.slice ad len cap:=q1
  have hw:Region.wanted (Oper.mk (some d2) (.binOp .eql T (.tmp d1) (.const (.slice none 0 0)) U) ty' pos' af' none) (yielded [Oper.mk (some d1) (.move (.tmp s0)) ty pos af none,Oper.mk (some d2) (.binOp .eql T (.tmp d1) (.const (.slice none 0 0)) U) ty' pos' af' none].toArray a'.tmps)=true:=rfl
  unfold wpList
  rw [if_pos hw]
  left
  have fI:(execOp a'.eval (Oper.mk (some d2) (.binOp .eql T (.tmp d1) (.const (.slice none 0 0)) U) ty' pos' af' none)).run P w'=.ok (.value (.bool ad.isNone)) w':=by
   have hv:a'.eval (.const (.slice none 0 0))=.slice none 0 0:=rfl
   simp only [execOp,ie,hv]
   simp [eqGuard,binOp,run_equal_slice_nil w' T E ad len cap hT]
  unfold Oper.wp
  rw [fI,Oper.upon_value]
  refine⟨_,hK ad.isNone ?_,by rw [put_defers];exact eh,by rw [rW];exact bT,μ,Z,by rw [mz];exact hc,rY (fun t ht=>by cases ht;rw [bT];exact hd.2) hr bu.bool⟩
  intro hb
  rcases q4 with q4 | ⟨blk,off,c,T',fz,part,rest,g1,_⟩
  ·exact q4
  ·rw [g1] at hb;cases hb
end
section
variable {R V p vt v2 vl top u2 rl:Nat}
theorem aH5 (hV:V=(vt*4294967296+v2)*p+vl) (hR:R=(top*4294967296+u2)*p+rl) (ma:rl<p) (wo:u2<4294967296) (tV:0<vt):R/V<=top/vt:=by
 rw [yl tV]
 have h1:R/V*V<=R:=Nat.div_mul_le_self R V
 have h2:R/V*(vt*4294967296*p)<=R/V*V:=lr _ (by rw [hV,iw];omega)
 have h3:R<(top+1)*4294967296*p:=by
  rw [hR]
  have:(top*4294967296+u2+1)*p<=(top+1)*4294967296*p:=eT _ J
  rw [iw _ 1] at this;omega
 have h4:R/V*vt*(4294967296*p)<(top+1)*(4294967296*p):=by
  have e1:R/V*vt*(4294967296*p)=R/V*(vt*4294967296*p):=by simp only [fJ]
  have e2:(top+1)*(4294967296*p)=(top+1)*4294967296*p:=by simp only [fJ]
  rw [e1,e2];omega
 exact Nat.le_of_lt_succ (awX h4)
theorem azD {x rest:Nat} (hV:V=(vt*4294967296+v2)*p+vl) (hR:R=(top*4294967296+u2)*p+rl) (ma:rl<p) (kY:0<V)
  (hx:x*vt+rest=top) (h:rest*4294967296+u2<x*v2):R/V<x:=by
 rw [nw kY]
 have h1:x*((vt*4294967296+v2)*p)<=x*V:=lr _ (by rw [hV];omega)
 have h2:top*4294967296+u2+1<=x*(vt*4294967296+v2):=by
  rw [<-hx,iw,eA,fJ];omega
 have h3:(top*4294967296+u2+1)*p<=x*(vt*4294967296+v2)*p:=eT _ h2
 rw [iw _ 1] at h3
 rw [fJ] at h3
 omega
theorem ash {x rest:Nat} (hV:V=(vt*4294967296+v2)*p+vl) (hR:R=(top*4294967296+u2)*p+rl) (rM:vl<p) (tV:0<vt) (kY:0<V)
  (hx:x*vt+rest=top) (hxB:x<=4294967296) (h:x*v2<=rest*4294967296+u2):x<=R/V+1:=by
 cases x with
 | zero=>exact Nat.zero_le _
 | succ y =>
  have:y<=R/V:=by
   rw [yl kY]
   have h1:(y+1)*(vt*4294967296+v2)<=top*4294967296+u2:=by
    rw [<-hx,eA,iw _ rest,<-fJ];omega
   have h2:(y+1)*(vt*4294967296+v2)*p<=(top*4294967296+u2)*p:=eT _ h1
   have h3:y*vl<=y*p:=lr _ (xz rM)
   have h4:y*p<=4294967296*p:=eT _ J
   have h5:4294967296*p<=(vt*4294967296+v2)*p:=eT _ J
   have h6:y*V=y*(vt*4294967296+v2)*p+y*vl:=by rw [hV,eA,fJ]
   have h7:(y+1)*(vt*4294967296+v2)*p=y*(vt*4294967296+v2)*p+(vt*4294967296+v2)*p:=by rw [iw,iw,ae6]
   omega
  omega
theorem aJH {un u1:Nat} (hV:V=(vt*4294967296+v2)*p+vl) (hR:R=((un*4294967296+u1)*4294967296+u2)*p+rl) (rM:vl<p) (hv2:v2<4294967296) (hRV:R<V*4294967296):un<=vt:=by
 apply se
 intro h
 have h1:(vt+1)*4294967296<=un*4294967296:=by omega
 have h2:(vt*4294967296+v2+1)*4294967296<=(un*4294967296+u1)*4294967296+u2:=by
  have:(vt*4294967296+v2+1)<=un*4294967296+u1:=by omega
  exact bb (eT 4294967296 this) (Nat.le_add_right _ _)
 have h3:(vt*4294967296+v2+1)*4294967296*p<=((un*4294967296+u1)*4294967296+u2)*p:=eT _ h2
 have h4:V<=(vt*4294967296+v2+1)*p:=by rw [hV,iw _ 1];omega
 have h5:V*4294967296<=(vt*4294967296+v2+1)*p*4294967296:=eT _ h4
 have h6:(vt*4294967296+v2+1)*p*4294967296=(vt*4294967296+v2+1)*4294967296*p:=by rw [ax0]
 omega
theorem axE {x rest un u1:Nat} (hx:x*vt+rest=un*4294967296+u1) (hun:un<=vt) (rJ:u1<4294967296) (hv2:v2<4294967296) (hr:4294967296<=rest):x<4294967296/\x*v2<=rest*4294967296+u2:=by
 have hxl:x<4294967296:=by
  apply se
  intro h
  have h1:4294967296*vt<=x*vt:=eT vt J
  omega
 refine⟨hxl,?_⟩
 have h1:x*v2<=4294967296*4294967296:=jG (xz hxl) (xz hv2)
 have h2:4294967296*4294967296<=rest*4294967296:=eT _ hr
 omega
end
theorem aE0 {l:List Nat} {k:Nat} (h:val l<4294967296 ^ k):∀ p,k<=p->l.getD p 0=0:=fun p hp=>by
 apply se
 intro h0
 have bZ:p<l.length:=by
  apply se
  intro hh
  exact h0 (uF l p J)
 have h1:=tp l p J
 rw [oS bZ] at h1
 have h2:4294967296 ^ k<=4294967296 ^ p:=oy J hp
 have h3:4294967296 ^ p*1<=4294967296 ^ p*(l.getD p 0+4294967296*val (l.drop (p+1))):=lr _ J
 omega
theorem af8:∀ {l:List Nat},(∀ p,l.getD p 0=0)->val l=0
 | [],_=>rfl
 | x :: xs,h=>by
   have h0:x=0:=by simpa using h 0
   have:=af8 (l:=xs) (fun p=>by simpa using h (p+1))
   simp [val,h0,this]
theorem afA (l:List Nat) (k p:Nat):(l.drop k).getD p 0=l.getD (k+p) 0:=by
 rw [bE,bE,List.getElem?_drop]
theorem aFO {l:List Nat} {k:Nat} (hl:bV l) (h:∀ p,k<=p->l.getD p 0=0):val l<4294967296 ^ k:=by
 by_cases hk:k<=l.length
 ·rw [tp l k hk,af8 (l:=l.drop k) (fun p=>by rw [afA];exact h _ J),zC,mg]
  exact tE (xc hl k) bq
 ·exact tE hl J
theorem aCe {l:List Nat} {k:Nat} (hk:k+2<l.length) (hz:∀ p,k+3<=p->l.getD p 0=0) :
  val l=((l.getD (k+2) 0*4294967296+l.getD (k+1) 0)*4294967296+l.getD k 0)*4294967296 ^ k+val (l.take k):=by
 have h3:val (l.drop (k+2+1))=0:=af8 (fun p=>by rw [afA];exact hz _ J)
 rw [tp l k J,oS J,oS (k:=k+1) J,oS (k:=k+1+1) J,h3,eH (4294967296 ^ k),mH,show k+1+1=k+2 from rfl]
 congr 2
 omega
theorem aHt {l:List Nat} {k:Nat} (hk:k+2=l.length):val l=(l.getD (k+1) 0*4294967296+l.getD k 0)*4294967296 ^ k+val (l.take k):=by
 have h3:val (l.drop (k+1+1))=0:=by rw [kB J];rfl
 rw [tp l k J,oS J,oS (k:=k+1) J,h3,eH (4294967296 ^ k),mH]
 congr 2
 omega
theorem ay0 {i j c br x:Nat} {v ul:List Nat} {v0:Nat} (lX:i+j<ul.length) (gz:bV ul) (nF:br<=1)
  (hv:val ul+4294967296 ^ j*(x*val (v.take i))=v0+4294967296 ^ (i+j)*(c+br)) {c1 d:Nat} (tA:c1=c+x*v.getD i 0)
  (hd:d=(18446744073709551616+(18446744073709551616+ul.getD (i+j) 0-c1 % 4294967296) % 18446744073709551616-br) % 18446744073709551616) :
  d/9223372036854775808<=1/\bV (ul.set (i+j) (d % 4294967296)) /\
   val (ul.set (i+j) (d % 4294967296))+4294967296 ^ j*(x*val (v.take (i+1)))=v0+4294967296 ^ (i+1+j)*(c1/4294967296+d/9223372036854775808):=by
 have hu:=iN gz (i+j)
 refine⟨J,mn gz _ _ J,?_⟩
 have h1:=adI (x:=d % 4294967296) lX
 have h2:d % 4294967296+c1 % 4294967296+br=ul.getD (i+j) 0+4294967296*(d/9223372036854775808):=by omega
 have h3:4294967296 ^ (i+j)*(d % 4294967296)+4294967296 ^ (i+j)*(c1 % 4294967296)+4294967296 ^ (i+j)*br=4294967296 ^ (i+j)*ul.getD (i+j) 0+4294967296 ^ (i+j)*4294967296*(d/9223372036854775808):=by
  rw [<-eA,<-eA,h2,eA,fJ]
 have h4:=abT (4294967296 ^ (i+j)) c1
 have h5:4294967296 ^ (i+j)*c1=4294967296 ^ (i+j)*c+4294967296 ^ j*(x*(4294967296 ^ i*v.getD i 0)):=by
  rw [tA,eA,mA]
  congr 1
  simp only [fJ,acF,eH]
 have h6:4294967296 ^ (i+1+j)=4294967296 ^ (i+j)*4294967296:=by rw [ak6,jw]
 rw [pv,eA x,eA,h6,eA]
 rw [eA] at hv
 omega
theorem apz {j n c br x t:Nat} {ul:List Nat} {V v0:Nat} (lX:n+j<ul.length) (gz:bV ul) (nF:br<=1) (hc:c<4294967296)
  (hv:val ul+4294967296 ^ j*(x*V)=v0+4294967296 ^ (n+j)*(c+br)) (ht:t=ul.getD (n+j) 0) {d:Nat}
  (hd:d=(18446744073709551616+(18446744073709551616+t-c) % 18446744073709551616-br) % 18446744073709551616) :
  bV (ul.set (n+j) (d % 4294967296))/\d/9223372036854775808<=1 /\
   val (ul.set (n+j) (d % 4294967296))+4294967296 ^ j*(x*V)=v0+4294967296 ^ (n+j+1)*(d/9223372036854775808):=by
 have hu:=iN gz (n+j)
 refine⟨mn gz _ _ J,J,?_⟩
 have h1:=adI (x:=d % 4294967296) lX
 have h2:d % 4294967296+c+br=t+4294967296*(d/9223372036854775808):=by omega
 have h3:4294967296 ^ (n+j)*(d % 4294967296)+4294967296 ^ (n+j)*c+4294967296 ^ (n+j)*br=4294967296 ^ (n+j)*t+4294967296 ^ (n+j)*4294967296*(d/9223372036854775808):=by
  rw [<-eA,<-eA,h2,eA,fJ]
 rw [jw]
 rw [eA] at hv
 rw [<-ht] at h1
 omega
theorem ayN {i j c:Nat} {v ul:List Nat} {v0:Nat} (lX:i+j<ul.length) (gz:bV ul) (hv:val ul+4294967296 ^ (i+j)*c=v0+4294967296 ^ j*val (v.take i)) {s:Nat} (hs:s=c+(ul.getD (i+j) 0+v.getD i 0)) :
  bV (ul.set (i+j) (s % 4294967296))/\val (ul.set (i+j) (s % 4294967296))+4294967296 ^ (i+1+j)*(s/4294967296)=v0+4294967296 ^ j*val (v.take (i+1)):=by
 refine⟨mn gz _ _ J,?_⟩
 have h1:=adI (x:=s % 4294967296) lX
 have h2:=abT (4294967296 ^ (i+j)) s
 have h3:4294967296 ^ (i+j)*s=4294967296 ^ (i+j)*c+4294967296 ^ (i+j)*ul.getD (i+j) 0+4294967296 ^ j*(4294967296 ^ i*v.getD i 0):=by
  rw [hs,eA,eA,mA]
  simp only [fJ,acF,eH]
  omega
 have h6:4294967296 ^ (i+1+j)=4294967296 ^ (i+j)*4294967296:=by rw [ak6,jw]
 rw [pv,eA,h6]
 omega
end Go.Lg
namespace Go.Lg
theorem uj (k:Nat):0<4294967296 ^ k:=lC J
theorem ahH {ul:List Nat} {V n j:Nat} (hVn:V<4294967296 ^ n) (bZ:val ul<V*4294967296 ^ (j+1)):∀ p,n+j+1<=p->ul.getD p 0=0:=by
 apply aE0
 have h1:V*4294967296 ^ (j+1)<=4294967296 ^ n*4294967296 ^ (j+1):=eT _ (xz hVn)
 rw [<-mA] at h1
 exact abQ bZ h1
theorem amT {ul:List Nat} {V n j:Nat} (hn:(aq V).length=n+2) (lX:n+2+j<ul.length) (gz:bV ul) (bZ:val ul<V*4294967296 ^ (j+1)) :
  ∃ vl rl,vl<4294967296 ^ n/\rl<4294967296 ^ n/\V=((aq V).getD (n+1) 0*4294967296+(aq V).getD n 0)*4294967296 ^ n+vl /\
   val ul/4294967296 ^ j=((ul.getD (n+2+j) 0*4294967296+ul.getD (n+1+j) 0)*4294967296+ul.getD (n+j) 0)*4294967296 ^ n+rl /\
   val ul/4294967296 ^ j<V*4294967296:=by
 have hVn:V<4294967296 ^ (n+2):=uy J
 have hz:=ahH hVn bZ
 have h1:=aHt (l:=aq V) (k:=n) J
 have h2:=aCe (l:=ul) (k:=n+j) J (fun p hp=>hz p J)
 rw [cb] at h1
 refine⟨val ((aq V).take n),val (ul.take (n+j))/4294967296 ^ j,tE (xc (cZ V) _) bq,?_,h1,?_,?_⟩
 ·rw [nw (uj j),<-mA]
  exact tE (xc gz _) bq
 ·have e1:n+j+2=n+2+j:=by omega
  have e2:n+j+1=n+1+j:=by omega
  rw [e1,e2] at h2
  rw [h2,mA,<-fJ,mH,Nat.add_mul_div_right _ _ (uj j),mH]
 ·rw [nw (uj j)]
  rw [jw] at bZ
  have e:V*4294967296*4294967296 ^ j=V*(4294967296 ^ j*4294967296):=by rw [fJ,eH 4294967296]
  rw [e];exact bZ
section
variable {ul ul0:List Nat} {V n j x:Nat}
theorem aAS (h:val ul+4294967296 ^ j*(x*V)=val ul0) (hV:0<V):x<=val ul0/4294967296 ^ j/V:=by
 rw [yl hV,yl (uj j),eH _ (4294967296 ^ j)]
 omega
theorem aC6 (h:val ul+4294967296 ^ j*(x*V)=val ul0+4294967296 ^ (n+j+1)) (bZ:val ul<4294967296 ^ (n+j+1)) (hV:0<V):val ul0/4294967296 ^ j/V<x:=by
 rw [nw hV,nw (uj j),eH _ (4294967296 ^ j)]
 omega
theorem aDh {ul3:List Nat} {c:Nat} (hx:0<x) (hxV:4294967296 ^ j*((x-1)*V)<=val ul0) (h:val ul+4294967296 ^ j*(x*V)=val ul0+4294967296 ^ (n+j+1)) (lX:n+j<ul3.length) (td:bV ul3) (hz:∀ p,n+j+1<=p->ul3.getD p 0=0)
  (hc:c<=1) (h3:val ul3+4294967296 ^ (n+j)*c=val ul+4294967296 ^ j*V) {t:Nat} (ht:t=ul3.getD (n+j) 0) :
  bV (ul3.set (n+j) ((t+c) % 4294967296))/\val (ul3.set (n+j) ((t+c) % 4294967296))+4294967296 ^ j*((x-1)*V)=val ul0:=by
 have hs:=tp ul3 (n+j) J
 rw [oS lX,af8 (l:=ul3.drop (n+j+1)) (fun p=>by rw [afA];exact hz _ J),zC,mg,<-ht] at hs
 have aaB:val (ul3.take (n+j))<4294967296 ^ (n+j):=tE (xc td _) bq
 have htl:=iN td (n+j)
 rw [<-ht] at htl
 obtain⟨y,rfl⟩:∃ y,x=y+1:=⟨x-1,J⟩
 rw [rO] at *
 have e1:4294967296 ^ j*((y+1)*V)=4294967296 ^ j*(y*V)+4294967296 ^ j*V:=by rw [iw,ae6,eA]
 rw [e1] at h
 have h4:val (ul3.take (n+j))+4294967296 ^ (n+j)*(t+c)=(val ul0-4294967296 ^ j*(y*V))+4294967296 ^ (n+j)*4294967296:=by
  rw [eA,<-jw];omega
 have h5:4294967296<=t+c:=by
  apply se
  intro hh
  have:4294967296 ^ (n+j)*(t+c+1)<=4294967296 ^ (n+j)*4294967296:=lr _ J
  rw [eA _ (t+c)] at this
  omega
 have h6:t+c=4294967296:=by omega
 rw [h6] at h4 ⊢
 refine⟨mn td _ _ J,?_⟩
 have h7:=adI (x:=4294967296 % 4294967296) lX
 rw [<-ht,awN,zC,mg] at h7
 rw [awN]
 omega
theorem arR {ql:List Nat} {U0:Nat} (hV:0<V) (hx:x=val ul0/4294967296 ^ j/V) (h:val ul+4294967296 ^ j*(x*V)=val ul0) (hj:j<ql.length)
  (hv:val ul0+V*4294967296 ^ (j+1)*val (ql.drop (j+1))=U0) :
  val ul+V*4294967296 ^ j*val ((ql.set j x).drop j)=U0/\val ul<V*4294967296 ^ j:=by
 constructor
 ·rw [atl hj,<-hv,<-h,eA]
  have e1:V*4294967296 ^ j*x=4294967296 ^ j*(x*V):=by simp only [fJ,acF,eH]
  have e2:V*4294967296 ^ j*(4294967296*val (ql.drop (j+1)))=V*4294967296 ^ (j+1)*val (ql.drop (j+1)):=by
   rw [jw];simp only [fJ]
  rw [e1,e2];omega
 ·have h1:val ul0/4294967296 ^ j<(x+1)*V:=by
   rw [<-nw hV,hx];omega
  rw [nw (uj j)] at h1
  have e:(x+1)*V*4294967296 ^ j=4294967296 ^ j*(x*V)+V*4294967296 ^ j:=by
   rw [iw,iw,ae6,eH (x*V)]
  rw [e] at h1;omega
end
theorem aJy {s:Nat} (hs:s<32):2 ^ s<=2147483648:=oy (n:=2) J (show s<=31 by omega)
theorem aJ4 {top:Nat} (h0:0<top) (h:top<4294967296):2147483648<=top*2 ^ (32-dK top)/\top*2 ^ (32-dK top)<4294967296:=by
 have h1:dK top<=32:=vK.2 h
 have h2:1<=dK top:=by
  rcases ahu (dK top) with e | e
  ·exact absurd (wZ.1 e) J
  ·exact e
 have h3:2 ^ (dK top-1)<=top:=akS.1 J
 have h4:top<2 ^ dK top:=vK.1 (bF _)
 constructor
 ·have:=eT (2 ^ (32-dK top)) h3
  rw [<-mA,show dK top-1+(32-dK top)=31 by omega] at this
  exact this
 ·have:=aky h4 (lC (n:=32-dK top) (show 0<2 by omega))
  rw [<-mA,show dK top+(32-dK top)=32 by omega] at this
  exact this
theorem as9 {Bv n s:Nat} (hn:(aq Bv).length=n+1) (hs:s=32-dK ((aq Bv).getD n 0)):s<32/\(aq (Bv*2 ^ s)).length=n+1/\2147483648*4294967296 ^ n<=Bv*2 ^ s/\Bv*2 ^ s<4294967296 ^ (n+1):=by
 have bj:=afo (aff Bv) (by omega:0<(aq Bv).length)
 rw [hn,rO] at bj
 have abG:=ix Bv n
 obtain⟨h1,h2⟩:=aJ4 (uN bj) abG
 rw [<-hs] at h1 h2
 have hv:Bv=4294967296 ^ n*(aq Bv).getD n 0+val ((aq Bv).take n):=by
  have:=tp (aq Bv) n J
  rw [oS J,show (aq Bv).drop (n+1)=[] from kB J,cb] at this
  simp only [val,zC,mg] at this
  omega
 have aaB:val ((aq Bv).take n)<4294967296 ^ n:=tE (xc (cZ Bv) _) bq
 have kP:2147483648*4294967296 ^ n<=Bv*2 ^ s:=by
  have:=lr (4294967296 ^ n) h1
  have e:4294967296 ^ n*((aq Bv).getD n 0*2 ^ s)<=Bv*2 ^ s:=by
   rw [<-fJ];exact eT _ J
  rw [eH] at this;omega
 have bZ:Bv*2 ^ s<4294967296 ^ (n+1):=by
  have hp:0<2 ^ s:=lC J
  have e1:Bv<4294967296 ^ n*((aq Bv).getD n 0+1):=by rw [eA];omega
  have e2:=aky e1 hp
  have e3:(aq Bv).getD n 0*2 ^ s+2 ^ s<=4294967296:=by
   have th:s<=32:=by omega
   have hd:4294967296=2 ^ (32-s)*2 ^ s:=by rw [<-mA,show 32-s+s=32 by omega]
   rw [hd] at h2 ⊢
   have:=awX h2
   have:=eT (2 ^ s) this
   rw [Nat.succ_mul] at this
   exact this
  rw [fJ,iw,ae6] at e2
  have e4:=lr (4294967296 ^ n) e3
  rw [jw];omega
 refine⟨?_,?_,kP,bZ⟩
 ·rcases ahu (dK ((aq Bv).getD n 0)) with e | e
  ·exact absurd (wZ.1 e) bj
  ·omega
 ·have h3:=xf bZ
  have h4:n<(aq (Bv*2 ^ s)).length:=by
   apply se
   intro hh
   have:=uy (n:=Bv*2 ^ s) (k:=n) J
   have:=eT (4294967296 ^ n) (show 1<=2147483648 by omega)
   omega
  omega
theorem avd {V n:Nat} (hn:(aq V).length=n+1) (kP:2147483648*4294967296 ^ n<=V):2147483648<=(aq V).getD n 0:=by
 have hv:=tp (aq V) n J
 rw [oS J,show (aq V).drop (n+1)=[] from kB J,cb] at hv
 simp only [val,zC,mg] at hv
 have aaB:val ((aq V).take n)<4294967296 ^ n:=tE (xc (cZ V) _) bq
 apply se
 intro hh
 have:=lr (4294967296 ^ n) (show (aq V).getD n 0+1<=2147483648 by omega)
 rw [eA,eH _ 2147483648] at this
 omega
theorem ayP {A Bv s n m:Nat} (hs:s<32) (hm:(aq A).length=m) (ki:n+1<=m) (kP:2147483648*4294967296 ^ n<=Bv*2 ^ s):A*2 ^ s<Bv*2 ^ s*4294967296 ^ (m+1-(n+1))/\A*2 ^ s<4294967296 ^ (m+1):=by
 have hA:A<4294967296 ^ m:=uy J
 have hp:=aJy hs
 have h1:A*2 ^ s<4294967296 ^ m*2147483648:=abQ (aky hA (lC J)) (lr _ hp)
 constructor
 ·have h2:=eT (4294967296 ^ (m+1-(n+1))) kP
  rw [fJ,<-mA,show n+(m+1-(n+1))=m by omega] at h2
  omega
 ·rw [jw];exact aoF h1 (Nat.mul_lt_mul_of_pos_left J (uj m))
theorem asR {A Bv s:Nat} {ul ql:List Nat} (hB:0<Bv) (h:val ul+Bv*2 ^ s*val ql=A*2 ^ s) (bZ:val ul<Bv*2 ^ s):val ql=A/Bv/\val ul=A % Bv*2 ^ s:=by
 have hp:0<2 ^ s:=lC J
 have h1:val ul=A*2 ^ s % (Bv*2 ^ s):=by
  rw [<-h,Nat.add_mul_mod_self_left,ir bZ]
 have h2:val ql=A*2 ^ s/(Bv*2 ^ s):=by
  rw [<-h,Nat.add_mul_div_left _ _ (by exact qn hB hp),aaM bZ,Nat.zero_add]
 rw [auD] at h1
 rw [Nat.mul_div_mul_right _ _ hp] at h2
 exact⟨h2,h1⟩
theorem ajZ {i s:Nat} {w o:List Nat} (hi:i<w.length) (hs:s<32) (hd:w.getD i 0=o.getD i 0) (hv:2 ^ s*val (w.take i)=val (o.take i)+4294967296 ^ i*(o.getD i 0 % 2 ^ s)) {y:Nat} (hy:y=o.getD i 0/2 ^ s+o.getD (i+1) 0 % 2 ^ s*2 ^ (32-s)) :
  2 ^ s*val ((w.set i y).take (i+1))=val (o.take (i+1))+4294967296 ^ (i+1)*(o.getD (i+1) 0 % 2 ^ s):=by
 rw [aaS _ _ _ hi,pv o,eA,hv,jw]
 have h1:=yG (o.getD i 0) (2 ^ s)
 have h2:2 ^ s*(o.getD (i+1) 0 % 2 ^ s*2 ^ (32-s))=4294967296*(o.getD (i+1) 0 % 2 ^ s):=by
  rw [acF,<-mA,show s+(32-s)=32 by omega,eH]
 have h3:2 ^ s*(4294967296 ^ i*y)=4294967296 ^ i*(2 ^ s*(o.getD i 0/2 ^ s))+4294967296 ^ i*4294967296*(o.getD (i+1) 0 % 2 ^ s):=by
  rw [acF,hy,eA,h2,eA,fJ]
 have h4:4294967296 ^ i*o.getD i 0=4294967296 ^ i*(2 ^ s*(o.getD i 0/2 ^ s))+4294967296 ^ i*(o.getD i 0 % 2 ^ s):=by rw [<-eA,h1]
 omega
section
variable {a b s x c:Nat}
theorem aEN:dM .and .u64 (a:Nat) 4294967295=some (.int .u64 ((a % 4294967296:Nat):Int)):=by
 have e:(tk IntKind.u64.bits (a:Int) &&& tk IntKind.u64.bits (4294967295:Int)).toNat=a % 4294967296:=by
  have h1:(4294967295:Int)=((4294967295:Nat):Int):=rfl
  rw [h1,aaw,aaw,BitVec.toNat_and,aar,aar]
  have h2:4294967295 % 2 ^ IntKind.u64.bits=2 ^ 32-1:=rfl
  rw [h2,Nat.and_two_pow_sub_one_eq_mod]
  show a % 18446744073709551616 % 4294967296=a % 4294967296
  omega
 simp only [dM,e]
 rw [IntWalk.u64_in _ J]
theorem aF5:dM .add .u32 (a:Nat) (b:Nat)=some (.int .u32 (((a+b) % 4294967296:Nat):Int)):=by
 simp only [dM];rw [IntKind.wrap_u32];congr 2
theorem ayx (hs:s<=32):pe .shl .u32 (a:Nat) ((s:Nat):Int)=some (.int .u32 ((a % 2 ^ (32-s)*2 ^ s:Nat):Int)):=by
 have e:min ((s:Int)).toNat IntKind.u32.bits=s:=by show min s 32=s;omega
 have e2:(a:Int)*2 ^ s=((a*2 ^ s:Nat):Int):=by simp
 simp only [pe]
 rw [if_neg J,e,e2,wrap32]
 congr 3
 have:4294967296=2 ^ (32-s)*2 ^ s:=by rw [<-mA,show 32-s+s=32 by omega]
 rw [this,auD]
theorem aGz (hc:c<2 ^ s) (h:x*2 ^ s+c<4294967296):dM .or .u32 (c:Nat) ((x*2 ^ s:Nat):Int)=some (.int .u32 ((x*2 ^ s+c:Nat):Int)):=by
 have e:(tk IntKind.u32.bits (c:Int) ||| tk IntKind.u32.bits ((x*2 ^ s:Nat):Int)).toNat=x*2 ^ s+c:=by
  rw [aaw,aaw,al3,aar,aar]
  have e1:x*2 ^ s % 2 ^ IntKind.u32.bits=x*2 ^ s:=ir (by show _<4294967296;omega)
  have e2:c % 2 ^ IntKind.u32.bits=c:=ir (by show _<4294967296;omega)
  rw [e1,e2,arO]
  have:=alg (i:=s) (b:=c) hc x
  rw [alH] at this
  exact this.symm
 simp only [dM,e]
 rw [IntWalk.u32_in _ J]
theorem anI {s y z:Nat} (hs:s<=32) (hy:y<4294967296):y/2 ^ s<2 ^ (32-s)/\z % 2 ^ s*2 ^ (32-s)+y/2 ^ s<4294967296:=by
 have hd:4294967296=2 ^ (32-s)*2 ^ s:=by rw [<-mA,show 32-s+s=32 by omega]
 have hp:0<2 ^ s:=lC J
 have h1:y/2 ^ s<2 ^ (32-s):=by rw [nw hp];omega
 refine⟨h1,?_⟩
 have h2:=Nat.mod_lt z hp
 have h3:(z % 2 ^ s+1)*2 ^ (32-s)<=2 ^ s*2 ^ (32-s):=eT _ h2
 rw [iw,ae6,eH (2 ^ s)] at h3
 omega
end
theorem au4:∀ {l:List Nat},val l=0->∀ p,l.getD p 0=0
 | [],_,p=>by simp
 | x :: xs,h,p=>by
   simp only [val] at h
   have h1:x=0:=by omega
   have h2:val xs=0:=by omega
   cases p with
   | zero=>simpa using h1
   | succ p=>simpa using au4 h2 p
theorem aCD {l:List Nat} {n:Nat} (hn:n=l.length):∀ p,jh n l<=p->l.getD p 0=0:=fun p hp=>by
 subst hn
 have h1:=(aiy l.length l (bF _)).2
 rw [mQ] at h1
 have h2:=tp l (jh l.length l) (alj _ _)
 rw [h1] at h2
 have h3:val (l.drop (jh l.length l))=0:=by
  rcases ahu (val (l.drop (jh l.length l))) with e | e
  ·exact e
  ·have:=qn (uj (jh l.length l)) e;omega
 have h4:=au4 h3 (p-jh l.length l)
 rwa [afA,show jh l.length l+(p-jh l.length l)=p by omega] at h4
theorem aqK {l:List Nat} {r s:Nat} (hs:s<=32) (h:val l=r*2 ^ s):l.getD 0 0 % 2 ^ s=0:=by
 cases l with
 | nil=>simp
 | cons x xs =>
  simp only [val] at h
  have hd:4294967296=2 ^ (32-s)*2 ^ s:=by rw [<-mA,show 32-s+s=32 by omega]
  have h1:(x+4294967296*val xs) % 2 ^ s=0:=by rw [h,Nat.mul_mod_left]
  rw [hd,ax0,Nat.add_mul_mod_self_right] at h1
  simpa using h1
theorem t0:(0:Int).toNat=0:=rfl
theorem aBO {x:Nat} (h:x<4294967296):bV [x]:=fun y hy=>by simp at hy;omega
def abn:List Nat->Code->Option Code
 | [],c=>some c
 | i :: p,.seq x y=>if i=0 then abn p x else abn p y
 | i :: p,.cond _ x y=>if i=0 then abn p x else abn p y
 | _ :: p,.block _ c=>abn p c
 | _ :: p,.loop c=>abn p c
 | _,_=>none
def abh (fn:Func) (p:List Nat):Option Code:=fn.body.bind (abn p)
section
variable {P:Program} {Q:jT->St->Prop} {L L':St}
theorem aeK {fn:Func} {p:List Nat} {c:Code} (h:abh fn p=some c) (k:cU P c Q L):cU P ((abh fn p).getD .skip) Q L:=by rw [h];exact k
end
theorem aeS {P:Program} {Q:jT->St->Prop} {L:St} {c:Code} {S:St->St} (h:S L=L) (k:cU P c Q (S L)):cU P c Q L:=by rw [<-h];exact k
theorem abH {Q:jT->St->Prop} {S L:St} (k:Q .normal S) (h:S=L):Q .normal L:=h ▸ k
end Go.Lg
namespace Go.Lg
theorem hce:(∀ (p:Prop) [Decidable p],(decide p=true)=p)/\(∀ (p:Prop) [Decidable p],(decide p=false)=¬ p)/\(∀ {α:Type} [BEq α] [LawfulBEq α] {a b:α},((a==b)=true)=(a=b))
  /\ (∀ {α:Type} [BEq α] [LawfulBEq α] {a b:α},((a==b)=false)=¬ (a=b))/\(∀ {α:Type} [BEq α] [LawfulBEq α] {a b:α},((a != b)=true)=¬ (a=b))/\(∀ {α:Type} [BEq α] [LawfulBEq α] {a b:α},((a != b)=false)=(a=b))
  /\ (∀ (b:Bool),(¬ (b=true))=(b=false))/\(∀ (b:Bool),((!b)=true)=(b=false))/\(∀ (b:Bool),((!b)=false)=(b=true))/\(∀ (a b:Bool),(a=!b)=¬ (a=b))/\(!true)=false/\(!false)=true :=
 ⟨fun _=>by simp,fun _=>by simp,by intros;simp,by intros;simp,by intros;simp,by intros;simp,by simp,by simp,by simp,fun a b=>by cases a<;>cases b<;>simp,rfl,rfl⟩
theorem tm0 {p:Prop} (h:p:=by first | exact acE rfl | exact acE (yA _) | exact acE (kf _) | exact acE (an.pure _) | exact acE (bl.pure _) | exact acE (cd an _ _) | exact iF (yA _) rfl | exact iF (kf _) rfl | exact iF (an.pure _) rfl | exact iF (kf _) (kf _) | exact ac6 (kf _) (kf _) rfl | exact iF rfl rfl | exact ac6 rfl rfl rfl | exact iF (cd an _ _) (cd an _ _) | exact iF (cd an _ _) rfl):p:=h
theorem imZ {H:b9}:da H (.agg [.v (.bool false),.list 1 [],.list 1 []]) (aa 0):=rQ ▸ .pure (an.pure 0)
theorem cG {p:Prop} (h:p:=by first | exact .pure rfl | exact .pure (cd fX _ _) | exact .pure (kf _) | exact .pure (an.pure _) | exact .pure (bl.pure _) | exact imZ | exact .pure (cd an _ _) | exact .pure (yA _) | exact .nil _ | exact .pure (cd lQ _ _) | exact .pure (cd bl _ _) | exact .pure (aX.pure ⟨_,_,_⟩) | exact .pure (bz.pure _) | exact .pure (cd aX _ _) | exact .pure (cd bz _ _) | exact .pure (by assumption) | exact .pure pu):p:=h
theorem im1 {p:Prop} (h:p:=by first | exact .pure rfl | exact .pure (cd fX _ _) | exact .pure (kf _) | exact .pure (an.pure _) | exact .pure (bl.pure _) | exact .pure (cd an _ _) | exact .pure (yA _) | exact .nil _ | exact .pure (cd lQ _ _) | exact .pure (cd bl _ _) | exact .pure (by assumption) | exact dH fX rfl rfl (by first | rfl | omega | exact(ac1 _ _).symm | (simp;done) | (simp;omega)) | exact dH an rfl rfl (by first | rfl | omega | exact(ac1 _ _).symm | (simp;done) | (simp;omega)) | exact axB fX rfl rfl (by first | omega | (simp;omega)) | exact axB an rfl rfl (by first | omega | (simp;omega))):p:=h
theorem nt0 {p:Prop} (h:p:=by first | (simp;done) | exact(fun m h=>LV.noConfusion h) | exact LV.dG (kf _) | exact LV.dG (an.pure _) | exact LV.dG (bl.pure _) | exact LV.dG (yA _) | exact LV.dG (cd an _ _) | exact LV.dG (by assumption)):p:=h
theorem jH {p:Prop} (h:p:=by first | exact⟨(fun h=>by cases h),(fun _ h=>by cases h)⟩ | exact⟨LV.dT (an.pure _),LV.dG (an.pure _)⟩ | exact⟨LV.dT (bl.pure _),LV.dG (bl.pure _)⟩ | exact⟨LV.dT (aX.pure _),LV.dG (aX.pure _)⟩ | exact⟨LV.dT (bz.pure _),LV.dG (bz.pure _)⟩ | exact⟨LV.dT (by assumption),LV.dG (by assumption)⟩):p:=h
theorem aGG {a s:Nat} (hs:s<=32):pe .shl .u32 (a:Nat) (32-(s:Int))=some (.int .u32 ((a % 2 ^ s*2 ^ (32-s):Nat):Int)):=by
 have:=ayx (a:=a) (s:=32-s) J
 rw [show 32-(32-s)=s by omega] at this
 rwa [show (32:Int)-(s:Int)=((32-s:Nat):Int) by omega]
end Go.Lg
namespace Go.Lg
def lR (s:Bool) (n:Nat):Int:=bif s then -(n:Int) else n
theorem aGF (s:Bool):lR s 0=0:=by cases s<;>rfl
theorem ah3 (s:Bool) (n:Nat):(lR s n).natAbs=n:=by cases s<;>simp [lR]
theorem ayk (q:Rat):lR (decide (q<0)) q.num.natAbs=q.num:=by
 have h:(q<0)↔q.num<0:=by rw [<-axm,<-avn];omega
 by_cases hq:q<0
 ·have:=h.1 hq;simp only [hq,decide_true,lR,cond_true];omega
 ·have h2:¬ q.num<0:=fun x=>hq (h.2 x)
  simp only [hq,decide_false,lR,cond_false];omega
theorem agr (q:Rat):(q<0)↔q.num<0:=by rw [<-axm,<-avn];omega
def qv (s:Bool) (n d:Nat):Rat:=mkRat (lR s n) d
theorem an7 (s:Bool) {n d:Nat} (hn:0<n) (hd:0<d):(qv s n d).num.natAbs=n/n.gcd d:=by
 rw [qv,awe,if_neg J,ah3,qj]
 have h:((n.gcd d:Nat):Int) ∣ lR s n:=by
  cases s
  ·exact amu.2 (aaH _ _)
  ·exact(Int.dvd_neg.2 (amu.2 (aaH _ _)))
 rw [Int.natAbs_ediv_of_dvd h,ah3]
 simp
theorem ar7 (s:Bool) (n:Nat) {d:Nat} (hd:0<d):(qv s n d).den=d/n.gcd d:=by
 rw [qv,Rat.den_mkRat,if_neg J,ah3,qj]
theorem aCt (s:Bool) {n d:Nat} (hn:0<n) (hd:0<d):decide (qv s n d<0)=s:=by
 have h1:(qv s n d).num=lR s n/(n.gcd d:Nat):=by rw [qv,awe,if_neg J,ah3,qj]
 have hg:0<n.gcd d:=Nat.gcd_pos_of_pos_left _ hn
 have h2:=an7 s hn hd
 have h3:n/n.gcd d≠0:=by
  have:=Nat.div_pos (Nat.le_of_dvd hn (aaH n d)) hg;omega
 cases s
 ·have:0<=(qv false n d).num:=by rw [h1];exact asV (by simp [lR]) J
  simp only [decide_eq_false_iff_not];rw [agr];omega
 ·have:(qv true n d).num<=0:=by
   rw [h1];simp only [lR,cond_true]
   have iB:((n.gcd d:Nat):Int) ∣ (n:Int):=amu.2 (aaH _ _)
   rw [Int.neg_ediv_of_dvd iB]
   have:=asV (a:=(n:Int)) (b:=(n.gcd d:Nat)) J J
   omega
  simp only [decide_eq_true_eq];rw [agr];omega
theorem afR (s:Bool) (d:Nat):qv s 0 d=0:=by rw [qv,aGF,Rat.zero_mkRat]
theorem al0 (s:Bool) (n:Nat):qv s n 0=0:=by rw [qv];simp
theorem nQ (q:Rat):qv (decide (q<0)) q.num.natAbs q.den=q:=by rw [qv,ayk,auq]
def wq (s:Bool) (q:Rat):Rat:=qv s q.num.natAbs q.den
theorem aiN (q:Rat):wq (decide (q<0)) q=q:=nQ q
theorem aAF (s:Bool) (n:Nat):lR (!s) n=- lR s n:=by cases s<;>simp [lR]
theorem aFz (q:Rat):wq (!decide (q<0)) q=-q:=by
 rw [wq,qv,aAF,<-aoW,ayk,auq]
theorem aoz (s t:Bool) (n d m e:Nat):qv s n d*qv t m e=qv (s != t) (n*m) (d*e):=by
 simp only [qv,Rat.mkRat_mul_mkRat]
 congr 1
 cases s<;>cases t<;>simp [lR,Int.mul_neg,ahJ]
theorem ax6 (s:Bool) {n d m e:Nat} (hd:0<d) (he:0<e):qv s n d+qv s m e=qv s (n*e+m*d) (d*e):=by
 simp only [qv];rw [alB _ _ J J]
 congr 1
 cases s<;>simp [lR,ahJ]<;>omega
theorem asC (s t:Bool) {n d m e:Nat} (hd:0<d) (he:0<e) (eI:s≠t) (h:m*d<=n*e):qv s n d+qv t m e=qv s (n*e-m*d) (d*e):=by
 simp only [qv];rw [alB _ _ J J]
 congr 1
 cases s<;>cases t<;>simp_all [lR,ahJ]<;>omega
theorem awb (s t:Bool) {n d m e:Nat} (hd:0<d) (he:0<e) (eI:s≠t) (h:n*e<=m*d):qv s n d+qv t m e=qv t (m*d-n*e) (d*e):=by
 simp only [qv];rw [alB _ _ J J]
 congr 1
 cases s<;>cases t<;>simp_all [lR,ahJ]<;>omega
theorem aCH (x:Rat):(-x)⁻¹=-x⁻¹:=by grind
theorem aGI (s:Bool) (n d:Nat):(qv s n d)⁻¹=qv s d n:=by
 have h0:(qv false n d)⁻¹=qv false d n:=by
  simp only [qv,Rat.mkRat_eq_div,lR,cond_false]
  rw [qh,Rat.inv_mul_rev,Rat.inv_inv,qh]
  rfl
 cases s
 ·exact h0
 ·have e:∀ n d:Nat,qv true n d=- qv false n d:=fun n d=>by simp only [qv,lR,cond_true,cond_false,aoW]
  rw [e,e,aCH,h0]
theorem ak5 (s t:Bool) (n d m e:Nat):qv s n d/qv t m e=qv (s != t) (n*e) (d*m):=by
 rw [qh,aGI,aoz]
theorem anL (s:Bool) {n d k:Nat} (hk:0<k):qv s (n*k) (d*k)=qv s n d:=by
 by_cases hd:d=0
 ·subst hd;simp [al0]
 simp only [qv]
 rw [Rat.mkRat_eq_iff (by have:=qn (uN hd) hk;omega) hd]
 cases s<;>simp [lR]<;>grind
theorem wK (q:Rat):km q=if q.den=1 then 0 else q.den:=rfl
def rl (q:Rat):Nat:=max (aq q.num.natAbs).length (aq q.den).length
theorem oV (q:Rat):(aq q.num.natAbs).length<=rl q:=atH _ _
theorem qH (q:Rat):(aq q.den).length<=rl q:=amt _ _
theorem qO (q:Rat):(aq (km q)).length<=rl q:=by
 rw [wK];split
 ·simp [we]
 ·exact qH q
theorem aJv {q:Rat} {k:Nat} (hn:q.num.natAbs<4294967296 ^ k) (hd:q.den<4294967296 ^ k):rl q<=k :=
 Nat.max_le.2 ⟨xf hn,xf hd⟩
theorem acU (q:Rat):q.num.natAbs<4294967296 ^ rl q/\q.den<4294967296 ^ rl q:=⟨uy (oV q),uy (qH q)⟩
theorem ast (q:Rat):1<=rl q:=by
 have:=qH q
 have h:aq q.den≠[]:=fun h=>q.den_nz (sk.1 h)
 have:=List.length_pos_iff.2 h
 omega
theorem abI (s:Bool) {n d k:Nat} (hn:n<4294967296 ^ k) (hd:d<4294967296 ^ k):rl (qv s n d)<=max k 1:=by
 by_cases kM:d=0
 ·subst kM;rw [al0];exact bb (adz (by rfl)) (amt _ _)
 by_cases iy:n=0
 ·subst iy;rw [afR];exact bb (adz (by rfl)) (amt _ _)
 refine bb (aJv (k:=k) ?_ ?_) (atH _ _)
 ·rw [an7 s J J];exact xD (uO _ _) hn
 ·rw [ar7 s n J];exact xD (uO _ _) hd
theorem anh (q:Rat):rl (-q)=rl q:=by simp [rl]
theorem aad {x y a b:Nat} (hx:x<4294967296 ^ a) (hy:y<4294967296 ^ b):x*y<4294967296 ^ (a+b):=by
 rw [mA];exact Nat.mul_lt_mul'' hx hy
theorem cM (a b:Rat):rl (a*b)<=rl a+rl b:=by
 have ha:=acU a
 have hb:=acU b
 have:=abI (decide (a<0) != decide (b<0)) (aad ha.1 hb.1) (aad ha.2 hb.2)
 rw [<-aoz,nQ,nQ] at this
 have:=ast a
 omega
theorem pH (a b:Rat):rl (a/b)<=rl a+rl b:=by
 have ha:=acU a
 have hb:=acU b
 have:=abI (decide (a<0) != decide (b<0)) (aad ha.1 hb.2) (aad ha.2 hb.1)
 rw [<-ak5,nQ,nQ] at this
 have:=ast a
 omega
theorem apd {x y k:Nat} (hx:x<4294967296 ^ k) (hy:y<4294967296 ^ k):x+y<4294967296 ^ (k+1):=by
 rw [jw];omega
theorem nZ (a b:Rat):rl (a+b)<=rl a+rl b+1:=by
 have ha:=acU a
 have hb:=acU b
 have hd:=aad ha.2 hb.2
 have iB:a.den*b.den<4294967296 ^ (rl a+rl b+1):=aoF hd (Nat.pow_lt_pow_right J J)
 have h1:=aad ha.1 hb.2
 have h2:=aad ha.2 hb.1
 have hs:=apd h1 h2
 have key:∀ n,n<=a.num.natAbs*b.den+a.den*b.num.natAbs->∀ s,a+b=qv s n (a.den*b.den)->rl (a+b)<=rl a+rl b+1:=by
  intro n hn s e
  rw [e]
  have:=abI s (xD hn hs) iB
  omega
 rw [eH a.den b.num.natAbs] at key
 by_cases eI:decide (a<0)=decide (b<0)
 ·refine key _ (bF _) (decide (a<0)) ?_
  have:=ax6 (decide (a<0)) (n:=a.num.natAbs) (m:=b.num.natAbs) a.den_pos b.den_pos
  rw [<-this,nQ,eI,nQ]
 ·rcases Nat.le_total (b.num.natAbs*a.den) (a.num.natAbs*b.den) with h | h
  ·refine key (a.num.natAbs*b.den-b.num.natAbs*a.den) J (decide (a<0)) ?_
   have:=asC _ _ a.den_pos b.den_pos eI h
   rw [<-this,nQ,nQ]
  ·refine key (b.num.natAbs*a.den-a.num.natAbs*b.den) J (decide (b<0)) ?_
   have:=awb _ _ a.den_pos b.den_pos eI h
   rw [<-this,nQ,nQ]
theorem fD (a b:Rat):rl (a-b)<=rl a+rl b+1:=by
 have:=nZ a (-b)
 rw [anh] at this
 rwa [Rat.sub_eq_add_neg]
theorem aeA (s:Bool) {n d:Nat} (hn:0<n) (hd:0<d):aa (qv s n d)=.agg [.v (.bool s),bp (n/n.gcd d),bp (if d/n.gcd d=1 then 0 else d/n.gcd d)]:=by
 rw [vP,aCt s hn hd,an7 s hn hd,wK,ar7 s n hd]
def gp (a b:Rat):Int:=if a<b then -1 else if b<a then 1 else 0
section
variable {P:Program} {H:b9} {ρ:Operand->LV} {T:TypeId} {p x:Operand} {b i d sz:Nat} {q:Rat} {vals:List LV} {m ag:Bool} {α:Type} {e:α->LV} {a:α}
theorem aN.aIh (hp:ρ p=.aF b 3 i 0) (hb:H b=some ⟨3,vals,m⟩) (hi:vals[i]?=some (aa q)) (hT:bK P T 1 false):aN P H ρ (.load T p) (.v (.bool (decide (q<0)))):=.dU hp hb rfl hi (an.av _) (azy q) hT
theorem aN.aHo (hp:ρ p=.aF b 3 i 1) (hb:H b=some ⟨3,vals,m⟩) (hi:vals[i]?=some (aa q)) (hT:bK P T 1 false):aN P H ρ (.load T p) (bp q.num.natAbs):=.dU hp hb rfl hi (an.av _) (aFb q) hT
theorem aN.aG5 (hp:ρ p=.aF b 3 i 2) (hb:H b=some ⟨3,vals,m⟩) (hi:vals[i]?=some (aa q)) (hT:bK P T 1 false):aN P H ρ (.load T p) (bp (km q)):=.dU hp hb rfl hi (an.av _) (aFN q) hT
theorem aN.aGx (hp:ρ p=.aF b 3 i 0) (hb:H b=some ⟨3,vals,m⟩) (hi:vals[i]?=some (aa q)) (hT:bK P T 3 true):aN P H ρ (.load T p) (aa q):=.dU hp hb rfl hi (an.av _) (p7 q) hT
theorem dA.adT (he:gY e sz ag) (hx:ρ x=e a):dA P ρ d (.box T x) (.aF d sz 0 0) ⟨sz,[e a],true⟩:=by
 have h:=dA.box (P:=P) (ρ:=ρ) (d:=d) (T:=T) (x:=x) (by rw [hx];exact⟨fun h=>by have:=he.pure a;rw [h] at this;simp [LV.pure] at this,LV.dG (he.pure a)⟩)
 rwa [hx,he.av] at h
theorem dA.aJP (he:gY e sz ag) (hz:cF P T (e a)):dA P ρ d (.alloc T) (.aF d sz 0 0) ⟨sz,[e a],true⟩:=by
 have h:=dA.alloc (ρ:=ρ) (d:=d) hz
 rwa [he.av] at h
end
section
variable {P:Program} {L:St} {dst:Option Nat} {T:TypeId} {p x:Operand} {b:Nat} {q:Rat} {zs:List LV}
theorem gR.aBo (hp:L.ev p=.aF b 3 0 0) (hb:L.heap b=some ⟨3,[.agg zs],true⟩) (hz:cL zs=3) (hx:L.ev x=aa q) (hT:bK P T 3 true) :
  gR P L dst (.store T p x) ((L.bU b (some ⟨3,[aa q],true⟩)).put dst .any):=by
 have h:=gR.store (P:=P) (dst:=dst) (T:=T) (p:=p) (x:=x) (y:=.agg zs) (y':=aa q) hp hb rfl rfl rfl (by simp [LV.av,hz])
  (by rw [hx];simp [LV.put,hz,an.av,an.isAgg]) (by rw [hx,an.av,an.isAgg];exact hT)
  (by rw [hx];exact⟨fun h=>by have:=an.pure q;rw [h] at this;simp [LV.pure] at this,LV.dG (an.pure q)⟩)
 exact h
end
section
variable {P:Program} {H:b9} {ρ:Operand->LV} {T:TypeId} {p x y:Operand} {b i d sz:Nat} {s:Rat × Rat} {vals:List LV} {m ag:Bool} {q r:Rat}
theorem aN.aED (hp:ρ p=.aF b 6 i 0) (hb:H b=some ⟨6,vals,m⟩) (hi:vals[i]?=some (aD s)) (hT:bK P T 3 true):aN P H ρ (.load T p) (aa s.1):=.dU hp hb rfl hi (bl.av _) (aql s) hT
theorem aN.aBP (hp:ρ p=.aF b 6 i 3) (hb:H b=some ⟨6,vals,m⟩) (hi:vals[i]?=some (aD s)) (hT:bK P T 3 true):aN P H ρ (.load T p) (aa s.2):=.dU hp hb rfl hi (bl.av _) (auP s) hT
theorem aN.aIq (hp:ρ p=.aF b 6 i 0) (hb:H b=some ⟨6,vals,m⟩) (hi:vals[i]?=some (aD s)) (hT:bK P T 6 true):aN P H ρ (.load T p) (aD s):=.dU hp hb rfl hi (bl.av _) (wi s) hT
theorem aN.axo (hT:kR P T [(3,true),(3,true)]) (hz:cF P T (.agg [aa 0,aa 0])) (hx:ρ x=aa q) (hy:ρ y=aa r):aN P H ρ (.build T #[(0,x),(1,y)]) (aD (q,r)):=by
 have:=aN.build (P:=P) (H:=H) (ρ:=ρ) (T:=T) (ps:=#[(0,x),(1,y)]) (zs:=[aa 0,aa 0]) (by simpa [lay,an.av,an.isAgg] using hT) hz (by
  simp only [List.forall_mem_cons]
  exact⟨⟨_,rfl,by simp [lay,hx,an.av,an.isAgg],by rw [hx];exact⟨LV.dT (an.pure _),LV.dG (an.pure _)⟩⟩,⟨_,rfl,by simp [lay,hy,an.av,an.isAgg],by rw [hy];exact⟨LV.dT (an.pure _),LV.dG (an.pure _)⟩⟩,fun _ h=>by cases h⟩)
 rw [xQ]
 simpa [jK,hx,hy] using this
theorem gR.aIK {L:St} {dst:Option Nat} {s0:Rat × Rat} (hp:L.ev p=.aF b 6 0 0) (hb:L.heap b=some ⟨6,[aD s0],true⟩) (hx:L.ev x=aD s) (hT:bK P T 6 true) :
  gR P L dst (.store T p x) ((L.bU b (some ⟨6,[aD s],true⟩)).put dst .any):=by
 have h0:LV.put (aD s0) 0 (L.ev x)=some (aD s):=by
  rw [hx,xQ s0]
  simp [LV.put,bl.av,bl.isAgg,cL,LV.av,an.av]
 have h:=gR.store (P:=P) (dst:=dst) (T:=T) (p:=p) (x:=x) (y:=aD s0) (y':=aD s) hp hb rfl rfl rfl (bl.av _) h0 (by rw [hx,bl.av,bl.isAgg];exact hT)
  (by rw [hx];exact⟨LV.dT (bl.pure s),LV.dG (bl.pure s)⟩)
 exact h
end
theorem amr {L:St} {α:Type} {e:α->LV} {ag:Bool} {bs:List Nat} {b sz off len:Nat} {l l':List α} {m:Bool} (he:gY e sz ag) (hb:L.heap b=some ⟨sz,l.map e,m⟩) (tw:bs.contains b=true) (hl:off+len<=l.length) (h:(l.drop off).take len=l') :
  da (L.ca bs).heap (.ref b sz off len) (.list sz (l'.map e)):=by
 have:=abV (L:=L) (bs:=bs) (off:=off) (len:=len) hb tw (aP he l) (by simpa using hl)
 rwa [<-List.map_drop,<-w5,h] at this
theorem aBy {n:Int} (h1:-9223372036854775808<n) (h2:n<=9223372036854775807):(if IntKind.i64.wrap (0-n) > n then IntKind.i64.wrap (0-n) else n)=((n.natAbs:Nat):Int):=by
 rw [IntWalk.i64_in _ J];split<;>omega
theorem aek (n:Int):qv (decide (n<0)) n.natAbs 1=(n:Rat):=by
 have:lR (decide (n<0)) n.natAbs=n:=by
  by_cases h:n<0
  ·simp only [h,decide_true,lR,cond_true];omega
  ·simp only [h,decide_false,lR,cond_false];omega
 rw [qv,this,Rat.mkRat_one]
theorem ae5 (n d:Int):qv (decide (n<0) != decide (d<0)) n.natAbs d.natAbs=(n:Rat)/(d:Rat):=by
 rw [<-aek n,<-aek d,ak5];simp
theorem aDM {q:Rat} (h:q.den<4294967296):(aq (km q)).length<=1:=tF.2 (by rw [wK];split<;>omega)
theorem ajJ {q:Rat} (h:0<(aq (km q)).length):km q=q.den:=by
 rw [wK] at h ⊢;split
 ·rename_i h1;rw [if_pos h1] at h;simp [we] at h
 ·rfl
theorem aot {q:Rat} (h:(aq (km q)).length=0):q.den=1:=by
 have h0:=sk.1 (List.eq_nil_of_length_eq_zero h)
 rw [wK] at h0
 have:=q.den_pos
 split at h0
 ·assumption
 ·omega
def xr (q:Rat):Bool:=decide (q.num.natAbs<4294967296/\q.den<4294967296)
def pN (q:Rat):Nat:=if xr q then q.num.natAbs else 0
def pD (q:Rat):Nat:=if xr q then q.den else 0
def di (a:Rat):Int:=if a=0 then 0 else if a<0 then -1 else 1
theorem axs (q:Rat):di q=if q.num.natAbs=0 then 0 else if q<0 then -1 else 1:=by
 unfold di
 by_cases h:q=0
 ·subst h;rfl
 ·have:¬ q.num.natAbs=0:=fun h2=>h (Rat.num_eq_zero.1 J)
  rw [if_neg h,if_neg this]
def pT (l:List Nat) (off n:Nat):List Nat:=if n<4294967296 then l.set off n else(l.set off (n % 4294967296)).set (off+1) (n/4294967296)
def mb (n:Nat):Nat:=if n<4294967296 then 1 else 2
theorem agk {n:Nat} (h0:0<n) (h:n<18446744073709551616):(n<4294967296/\mb n=1/\aq n=[n])\/(4294967296<=n/\mb n=2/\aq n=[n % 4294967296,n/4294967296]):=by
 by_cases hn:n<4294967296
 ·exact .inl ⟨hn,by simp [mb,hn],ac0 h0 hn⟩
 ·refine .inr ⟨J,by simp [mb,hn],?_⟩
  rw [aaO h0,ac0 J J]
theorem aEz {n:Nat} (h0:0<n) (h:n<18446744073709551616):((pT [0,0,0,0] 0 n).drop 0).take (mb n)=aq n:=by
 rcases agk h0 h with⟨h1,h2,h3⟩ | ⟨h1,h2,h3⟩
 ·rw [h2,h3];simp [pT,h1]
 ·rw [h2,h3];simp [pT,ann.2 h1]
theorem aAU {n d:Nat} (h0:0<n) (h:n<18446744073709551616) (g0:0<d) (g:d<18446744073709551616) :
  ((pT (pT [0,0,0,0] 0 n) (mb n) d).drop 0).take (mb n)=aq n/\((pT (pT [0,0,0,0] 0 n) (mb n) d).drop (mb n)).take (mb d)=aq d:=by
 rcases agk h0 h with⟨h1,h2,h3⟩ | ⟨h1,h2,h3⟩<;>rcases agk g0 g with⟨g1,g2,g3⟩ | ⟨g1,g2,g3⟩<;>rw [h2,h3,g2,g3]<;>simp [pT, *,ann.2]
theorem akv (l:List Nat) (off n:Nat):(pT l off n).length=l.length:=by unfold pT;split<;>simp
section
variable {P:Program} {ρ:Operand->LV} {α:Type} {e:α->LV}
theorem dA.aCW {T E:TypeId} {x y w:Operand} {d sz:Nat} {ag:Bool} {z a b c:α} (he:gY e sz ag) (hT:P.underlying T=some (.slice E)) (hz:cF P E (e z)) (hE:bK P E sz ag) (hx:ρ x=e a) (hy:ρ y=e b) (hw:ρ w=e c) (dx:0<sz) (il:sz<=1000) :
  dA P ρ d (.buildSlice T 3 #[(0,x),(1,y),(2,w)]) (.ref d sz 0 3) ⟨sz,[a,b,c].map e,true⟩:=by
 have bj:∀ v,ρ v=e a\/ρ v=e b\/ρ v=e c->lay (ρ v)=lay (e z)/\ρ v≠.any/\∀ m,ρ v≠.a9 m:=by
  rintro v (h | h | h)<;>rw [h]<;>exact⟨by simp [lay,he.av,he.isAgg],LV.dT (he.pure _),LV.dG (he.pure _)⟩
 have:=dA.lit (P:=P) (ρ:=ρ) (d:=d) (T:=T) (n:=3) (ps:=#[(0,x),(1,y),(2,w)]) hT hz (by rw [he.isAgg];exact hE) (he.av z) J J dx (by
  intro p hp
  simp only [ff,iq,or_false] at hp
  rcases hp with rfl | rfl | rfl
  ·exact⟨by show 0<3;omega,bj x (.inl hx)⟩
  ·exact⟨by show 1<3;omega,bj y (.inr (.inl hy))⟩
  ·exact⟨by show 2<3;omega,bj w (.inr (.inr hw))⟩)
 simpa [jK,hx,hy,hw,aV] using this
theorem dA.alP {T E:TypeId} {x y w z':Operand} {d sz:Nat} {ag:Bool} {z a b c f:α} (he:gY e sz ag) (hT:P.underlying T=some (.slice E)) (hz:cF P E (e z)) (hE:bK P E sz ag) (hx:ρ x=e a) (hy:ρ y=e b) (hw:ρ w=e c) (hf:ρ z'=e f) (dx:0<sz) (il:sz<=1000) :
  dA P ρ d (.buildSlice T 4 #[(0,x),(1,y),(2,w),(3,z')]) (.ref d sz 0 4) ⟨sz,[a,b,c,f].map e,true⟩:=by
 have bj:∀ v,ρ v=e a\/ρ v=e b\/ρ v=e c\/ρ v=e f->lay (ρ v)=lay (e z)/\ρ v≠.any/\∀ m,ρ v≠.a9 m:=by
  rintro v (h | h | h | h)<;>rw [h]<;>exact⟨by simp [lay,he.av,he.isAgg],LV.dT (he.pure _),LV.dG (he.pure _)⟩
 have:=dA.lit (P:=P) (ρ:=ρ) (d:=d) (T:=T) (n:=4) (ps:=#[(0,x),(1,y),(2,w),(3,z')]) hT hz (by rw [he.isAgg];exact hE) (he.av z) J J dx (by
  intro p hp
  simp only [ff,iq,or_false] at hp
  rcases hp with rfl | rfl | rfl | rfl
  ·exact⟨by show 0<4;omega,bj x (.inl hx)⟩
  ·exact⟨by show 1<4;omega,bj y (.inr (.inl hy))⟩
  ·exact⟨by show 2<4;omega,bj w (.inr (.inr (.inl hw)))⟩
  ·exact⟨by show 3<4;omega,bj z' (.inr (.inr (.inr hf)))⟩)
 simpa [jK,hx,hy,hw,hf,aV] using this
end
theorem jm {P:Program} {L L0:St} {c:Code} {Q:jT->St->Prop} (hw:az L L0) (h:cU P (.loop c) Q L0):cU P (.loop c) Q L:=by
 intro I hI
 obtain⟨L1,h1,h2⟩:=h I hI
 exact⟨L1,hw.trans h1,h2⟩
section
variable {P:Program} {ops:Array Oper} {D:Array Bool} {L:St} {K:St->Prop} {fuel:Nat}
theorem dt (hr:Region.ready .any ops D=[]) (k:K L):ng P ops fuel D L K:=by
 cases fuel with
 | zero=>exact⟨hr,k⟩
 | succ n=>exact⟨fun _=>k,fun i hi=>by rw [hr] at hi;cases hi⟩
theorem aS (i:Nat) (o:Oper) (hr:Region.ready .any ops D=[i]) (ho:ops[i]?=some o) (h:opsL P false ops [o] L (fun L'=>ng P ops fuel (D.setIfInBounds i true) L' K)):ng P ops (fuel+1) D L K:=by
 refine⟨fun e=>(by rw [hr] at e;cases e),fun j hj=>?_⟩
 rw [hr,List.mem_singleton] at hj
 subst hj
 obtain⟨L',h1,h2⟩:=h
 exact⟨o,L',ho,h1,h2⟩
theorem eG (i j:Nat) (o o2:Oper) (hr:Region.ready .any ops D=[i,j]) (ho:ops[i]?=some o) (ho2:ops[j]?=some o2) (h:opsL P false ops [o] L (fun L'=>ng P ops fuel (D.setIfInBounds i true) L' K))
  (h2:opsL P false ops [o2] L (fun L'=>ng P ops fuel (D.setIfInBounds j true) L' K)):ng P ops (fuel+1) D L K:=by
 refine⟨fun e=>(by rw [hr] at e;cases e),fun x hx=>?_⟩
 rw [hr] at hx
 simp only [ff,iq,or_false] at hx
 rcases hx with rfl | rfl
 ·obtain⟨L',h1,h3⟩:=h
  exact⟨o,L',ho,h1,h3⟩
 ·obtain⟨L',h1,h3⟩:=h2
  exact⟨o2,L',ho2,h1,h3⟩
end
class UN (P:Program) (T:TypeId) (d:outParam TypeDesc):Prop where
 h:P.underlying T=some d
class TI (P:Program) (T:TypeId) (sz:outParam Nat) (ag:outParam Bool):Prop where
 h:bK P T sz ag
class SI (P:Program) (T:TypeId) (l:outParam (List (Nat × Bool))):Prop where
 h:kR P T l
class BI (P:Program) (T:TypeId) (n:outParam Nat):Prop where
 h:kZ P T n
class ZI (P:Program) (T:TypeId) (z:outParam LV):Prop where
 h:cF P T z
class EC (P:Program) (T:TypeId) {α:outParam Type} (e:outParam (α->LV)) (sz:outParam Nat) (ag:outParam Bool) (z:outParam α):Prop where
 h:gY e sz ag
 z:cF P T (e z)
 t:bK P T sz ag
class AE (P:Program) (T:TypeId) {α:outParam Type} (e:outParam (α->LV)) (sz:outParam Nat) (ag:outParam Bool) (z:outParam α):Prop where
 h:gY e sz ag
 z:cF P T (e z)
theorem zHs {p:Prop} (h:p:=by first | (simp only [hce,l1,t0,t1,fU,cb];exact rfl) | exact rfl):p:=h
theorem agx {S:St->St} {L L1:St} (h:S L1=L):∃ L1,az L (S L1):=⟨L1,az.of_eq h⟩
def aFw:BinOp->Bool
 | .eql | .neq | .lss | .leq | .gtr | .geq=>true
 | _=>false
section
variable {P:Program} {H:b9} {ρ:Operand->LV} {α:Type} {e:α->LV} {sz:Nat} {ag:Bool} {z a:α} {T E:TypeId} {p x i:Operand} {L L0:St} {Q:jT->St->Prop} {K:St->Prop}
theorem aN.ldB [c:EC P T e sz ag z] (hp:ρ p=.ba (e a)):aN P H ρ (.load T p) (e a):=.aCf c.h hp c.t
theorem aN.ldE [Inhabited α] [c:EC P T e sz ag z] {b i:Nat} {l:List α} {m:Bool} (hp:ρ p=.aF b sz i 0) (hb:H b=some ⟨sz,l.map e,m⟩) (hi:i<l.length):aN P H ρ (.load T p) (e (l.getD i default)):=.aEw c.h hp hb c.t hi
theorem aN.ixL [Inhabited α] [u:UN P T (.slice E)] [c:EC P E e sz ag z] {l:List α} {k:IntKind} {n:Int} (hx:ρ x=.list sz (l.map e)) (hi:ρ i=.v (.int k n)) (h0:0<=n) (hn:n<l.length) :
  aN P H ρ (.indexAddr T x i) (.ba (e (l.getD n.toNat default))):=.aE7 c.h hx u.h c.t hi h0 hn
theorem aN.ixR [u:UN P T (.slice E)] [c:TI P E sz ag] {b off len:Nat} {k:IntKind} {n:Int} (hx:ρ x=.ref b sz off len) (hi:ρ i=.v (.int k n)) (h0:0<=n) (hn:n<len) :
  aN P H ρ (.indexAddr T x i) (.aF b sz (off+n.toNat) 0):=.abp hx u.h c.h hi h0 hn
theorem aN.cmp {op:BinOp} {U:TypeId} {y:Operand} {k:IntKind} {a b:Int} {r:Value} (hc:aFw op=true) (hx:ρ x=.v (.int k a)) (hy:ρ y=.v (.int k b)) (h:dM op k a b=some r):aN P H ρ (.binOp op T x y U) (.v r):=.bin hx hy h
theorem gR.stE [Inhabited α] [c:EC P T e sz ag z] {dst:Option Tmp} {b i:Nat} {l:List α} (hp:L.ev p=.aF b sz i 0) (hb:L.heap b=some ⟨sz,l.map e,true⟩) (hx:L.ev x=e a) (hi:i<l.length) :
  gR P L dst (.store T p x) ((L.bU b (some ⟨sz,(l.set i a).map e,true⟩)).put dst .any):=.azf c.h hp hb hx c.t hi
theorem dA.lf {dN:Nat} [u:UN P T (.slice E)] [c:EC P E e sz ag z] [b:BI P E dN] {d n m:Nat} {kl kc:IntKind} (hl:ρ x=.v (.int kl (n:Nat))) (hc:ρ i=.v (.int kc (m:Nat))) (ki:n<=m) (hm:dN*m<=281474976710656) (fc:m<=9223372036854775807) :
  dA P ρ d (.makeSlice T x i) (.ref d sz 0 n) ⟨sz,(aV n z).map e,true⟩:=.aoy c.h u.h c.z c.t b.h hl hc ki hm fc
theorem dA.og [c:EC P T e sz ag z] {d:Nat} (hx:ρ x=e a):dA P ρ d (.box T x) (.aF d sz 0 0) ⟨sz,[e a],true⟩:=.adT c.h hx
theorem aL {c:Operand} {x y:Code} {t:Bool} {u v:Prop} (hc:L.ev c=.v (.bool t)) (h1:t=true->u->cU P x Q L) (h2:t=false->v->cU P y Q L)
  (e1:(t=true)=u:=by exact zHs) (e2:(t=false)=v:=by exact zHs):cU P (.cond c x y) Q L:=alv hc (fun h=>h1 h (e1 ▸ h)) (fun h=>h2 h (e2 ▸ h))
theorem dA.alE [c:AE P T e sz ag z] {d:Nat}:dA P ρ d (.alloc T) (.aF d sz 0 0) ⟨sz,[e z],true⟩:=.aJP c.h c.z
theorem dA.l0 [u:UN P T (.slice E)] [t:TI P E sz ag] {d:Nat}:dA P ρ d (.buildSlice T 0 #[]) (.ref d sz 0 0) ⟨sz,[],true⟩:=.ain u.h t.h
theorem dA.l1 [u:UN P T (.slice E)] [c:EC P E e sz ag z] {d:Nat} {x0:Operand} {a0:α} (h0:ρ x0=e a0) (dx:0<sz:=by decide) (il:sz<=1000:=by decide):dA P ρ d (.buildSlice T 1 #[(0,x0)]) (.ref d sz 0 1) ⟨sz,[a0].map e,true⟩:=.aw8 c.h u.h c.z c.t h0 dx il
theorem dA.l2 [u:UN P T (.slice E)] [c:EC P E e sz ag z] {d:Nat} {x0 x1:Operand} {a0 a1:α} (h0:ρ x0=e a0) (h1:ρ x1=e a1) (dx:0<sz:=by decide) (il:sz<=1000:=by decide):dA P ρ d (.buildSlice T 2 #[(0,x0),(1,x1)]) (.ref d sz 0 2) ⟨sz,[a0,a1].map e,true⟩:=.wO c.h u.h c.z c.t h0 h1 dx il
theorem dA.l3 [u:UN P T (.slice E)] [c:EC P E e sz ag z] {d:Nat} {x0 x1 x2:Operand} {a0 a1 a2:α} (h0:ρ x0=e a0) (h1:ρ x1=e a1) (h2:ρ x2=e a2) (dx:0<sz:=by decide) (il:sz<=1000:=by decide):dA P ρ d (.buildSlice T 3 #[(0,x0),(1,x1),(2,x2)]) (.ref d sz 0 3) ⟨sz,[a0,a1,a2].map e,true⟩:=.aCW c.h u.h c.z c.t h0 h1 h2 dx il
theorem dA.l4 [u:UN P T (.slice E)] [c:EC P E e sz ag z] {d:Nat} {x0 x1 x2 x3:Operand} {a0 a1 a2 a3:α} (h0:ρ x0=e a0) (h1:ρ x1=e a1) (h2:ρ x2=e a2) (h3:ρ x3=e a3) (dx:0<sz:=by decide) (il:sz<=1000:=by decide):dA P ρ d (.buildSlice T 4 #[(0,x0),(1,x1),(2,x2),(3,x3)]) (.ref d sz 0 4) ⟨sz,[a0,a1,a2,a3].map e,true⟩:=.alP c.h u.h c.z c.t h0 h1 h2 h3 dx il
theorem ep {dr:Bool} {ops:Array Oper} {l:List Oper} (d:Nat) {b:Bool} {u v:Prop} (h:L.slot d=.v (.bool b)) (ht:b=true->u->opsL P dr ops l L K) (hf:b=false->v->opsL P dr ops l L K)
  (e1:(b=true)=u:=by exact zHs) (e2:(b=false)=v:=by exact zHs):opsL P dr ops l L K:=aIE h (fun h=>ht h (e1 ▸ h)) (fun h=>hf h (e2 ▸ h))
theorem aN.bd {zs:List LV} {l:List (Nat × Bool)} {ps:Array (Nat × Operand)} [z:ZI P T (.agg zs)] [s:SI P T l] (h:zs.map lay=l) (hp:∀ p∈ps.toList,∃ z,zs[p.1]?=some z/\lay (ρ p.2)=lay z/\ρ p.2≠.any/\∀ m,ρ p.2≠.a9 m) :
  aN P H ρ (.build T ps) (.agg (jK zs (ps.toList.map fun p=>(p.1,ρ p.2)))):=.build (h ▸ s.h) z.h hp
end
namespace H0
theorem aw {p q:Prop} (k:q) (e:p=q:=by simp only [e1,e2,e3,e4,p1,p2,p3,q1,q2,q3,l1,t0,t1,r1,r2,r3,r4,Nat.zero_add,Nat.reduceMul,Nat.reduceAdd,b1,b2,b3,b4,b5,b6,i1,i2,i3,i4,i5,i6,Nat.reduceBEq];exact rfl):p:=e.mpr k
end H0
theorem oo {p:Prop} (h:p:=by omega):p:=h
theorem om {p:Prop} (h:p:=by first | (refine aw ?_;omega) | omega):p:=h
theorem nf {p:Prop} (h:p:=by first | (refine aw ?_;exact rfl) | exact rfl):p:=h
theorem cl {p:Prop} (h:p:=by first | rfl | (refine aw ?_;first | exact trivial | rfl | (congr 3<;>omega) | (congr 2<;>omega))):p:=h
theorem ml {p:Prop} (h:p:=by first | rfl | (refine aw ?_;first | exact trivial | rfl | (congr 2<;>omega))):p:=h
theorem nt1:(!true)=false:=rfl
theorem nt2:(!false)=true:=rfl
theorem uR {p:Prop} (h:p:=by first | assumption | with_reducible rfl | with_reducible exact nt1 | with_reducible exact nt2):p:=h
theorem gd {p:Prop} (h:p:=by first | exact rfl | exact aM (v:=true) rfl rfl uR rfl | exact aM (v:=false) rfl rfl uR rfl):p:=h
theorem nes {p:Prop} (h:p:=by first | (intro p hp;cases hp;done) | (simp only [List.forall_mem_cons];first | exact⟨⟨_,rfl,rfl,jH⟩,fun _ h=>by cases h⟩ | exact⟨⟨_,rfl,rfl,jH⟩,⟨_,rfl,rfl,jH⟩,fun _ h=>by cases h⟩ | exact⟨⟨_,rfl,rfl,jH⟩,⟨_,rfl,rfl,jH⟩,⟨_,rfl,rfl,jH⟩,fun _ h=>by cases h⟩ | exact⟨⟨_,rfl,rfl,jH⟩,⟨_,rfl,rfl,jH⟩,⟨_,rfl,rfl,jH⟩,⟨_,rfl,rfl,jH⟩,fun _ h=>by cases h⟩)):p:=h
theorem aO {p:Prop} (h:p:=by exact .cons cG .nil):p:=h
theorem au {p:Prop} (h:p:=by exact .cons cG (.cons cG .nil)):p:=h
theorem gM {p:Prop} (h:p:=by exact .cons cG (.cons cG (.cons cG .nil))):p:=h
theorem am4 {p:Prop} (h:p:=by exact .cons cG (.cons cG (.cons cG (.cons cG .nil)))):p:=h
theorem am0 {p:Prop} (h:p:=by exact .nil):p:=h
theorem su {p:Prop} (h:p:=by exact .cons im1 .nil):p:=h
section
variable {P:Program} {dr:Bool} {ops:Array Oper} {rest:List Oper} {L:St} {K:St->Prop} {dst:Option Tmp} {ty:TypeId} {pos:String} {af:Array Edge} {g:Option (Nat × Bool)}
theorem cp {f:FuncId} {xs:Array Operand} {as:Array TypeId} {args:List LV} {r:LV} (ha:fH L.heap (xs.toList.map L.ev) args) (hk:ax P f args r) (k:opsL P dr ops rest (L.put dst r) K)
  (hg:eE ops L ⟨dst,.call ⟨.value (.func f),xs,as⟩,ty,pos,af,g⟩ true:=by exact gd):opsL P dr ops (⟨dst,.call ⟨.value (.func f),xs,as⟩,ty,pos,af,g⟩ :: rest) L K:=bM hg ha hk k
theorem sr {f:FuncId} {xs:Array Operand} {as:Array TypeId} {args:List LV} {r:LV} (bs:List Nat) (ha:fH (L.ca bs).heap (xs.toList.map L.ev) args) (hk:ax P f args r) (k:opsL P dr ops rest ((L.ca bs).put dst r) K)
  (hg:eE ops L ⟨dst,.call ⟨.value (.func f),xs,as⟩,ty,pos,af,g⟩ true:=by exact gd) (h0:bs.contains 0=false:=by exact rfl):opsL P dr ops (⟨dst,.call ⟨.value (.func f),xs,as⟩,ty,pos,af,g⟩ :: rest) L K:=ac3 bs hg h0 ha hk k
end
def Nx1 {α:Type} (S:α->St->St) (C:α->Prop) (μ:α->Nat) (a:α) (L:St):Prop:=∃ a' L2,C a'/\μ a'<μ a/\az L (S a' L2)
theorem dI {α:Type} {P:Program} {Q:jT->St->Prop} {L:St} {k:Code} (S:α->St->St) (C:α->Prop) (μ:α->Nat) (a:α) (hC:C a) (hr:∀ a' L1,C a'->cU P k (oq (Nx1 S C μ a') Q) (S a' L1))
  (h0:∃ L1,az L (S a L1):=by apply agx;repeat (first | exact bJ cl | refine aj ?_ cl)):cU P (.loop k) Q L:=by
 refine agE (α:=α) (fun x=>S x) (fun x=>C x) (fun x=>μ x) a hC h0 ?_
 rintro a' L1 hc
 refine abE (fun e L h=>?_) (hr a' L1 hc)
 cases e with
 | normal =>
  obtain⟨a1,L2,h1,h2,h3⟩:=h
  exact⟨a1,L2,h1,h2,h3⟩
 | exit i=>exact h
 | ret=>exact h
theorem lU {α:Type} {S:α->St->St} {C:α->Prop} {μ:α->Nat} {a:α} {L L2:St} (a':α) (hc:C a') (hm:μ a'<μ a:=by omega) (he:az L (S a' L2):=by apply az.of_eq;repeat (first | exact bJ cl | refine aj ?_ cl)):Nx1 S C μ a L:=⟨a',L2,hc,hm,he⟩
def Nx2 {α β:Type} (S:α->β->St->St) (C:α->β->Prop) (μ:α->β->Nat) (a:α) (b:β) (L:St):Prop:=∃ a' b' L2,C a' b'/\μ a' b'<μ a b/\az L (S a' b' L2)
theorem iv {α β:Type} {P:Program} {Q:jT->St->Prop} {L:St} {k:Code} (S:α->β->St->St) (C:α->β->Prop) (μ:α->β->Nat) (a:α) (b:β) (hC:C a b) (hr:∀ a' b' L1,C a' b'->cU P k (oq (Nx2 S C μ a' b') Q) (S a' b' L1))
  (h0:∃ L1,az L (S a b L1):=by apply agx;repeat (first | exact bJ cl | refine aj ?_ cl)):cU P (.loop k) Q L:=by
 refine agE (α:=α × β) (fun x=>S x.1 x.2) (fun x=>C x.1 x.2) (fun x=>μ x.1 x.2) (a,b) hC h0 ?_
 rintro⟨a',b'⟩ L1 hc
 refine abE (fun e L h=>?_) (hr a' b' L1 hc)
 cases e with
 | normal =>
  obtain⟨a1,b1,L2,h1,h2,h3⟩:=h
  exact⟨(a1,b1),L2,h1,h2,h3⟩
 | exit i=>exact h
 | ret=>exact h
theorem fO {α β:Type} {S:α->β->St->St} {C:α->β->Prop} {μ:α->β->Nat} {a:α} {b:β} {L L2:St} (a':α) (b':β) (hc:C a' b') (hm:μ a' b'<μ a b:=by omega) (he:az L (S a' b' L2):=by apply az.of_eq;repeat (first | exact bJ cl | refine aj ?_ cl)):Nx2 S C μ a b L:=⟨a',b',L2,hc,hm,he⟩
def Nx3 {α β γ:Type} (S:α->β->γ->St->St) (C:α->β->γ->Prop) (μ:α->β->γ->Nat) (a:α) (b:β) (c:γ) (L:St):Prop:=∃ a' b' c' L2,C a' b' c'/\μ a' b' c'<μ a b c/\az L (S a' b' c' L2)
theorem tz {α β γ:Type} {P:Program} {Q:jT->St->Prop} {L:St} {k:Code} (S:α->β->γ->St->St) (C:α->β->γ->Prop) (μ:α->β->γ->Nat) (a:α) (b:β) (c:γ) (hC:C a b c) (hr:∀ a' b' c' L1,C a' b' c'->cU P k (oq (Nx3 S C μ a' b' c') Q) (S a' b' c' L1))
  (h0:∃ L1,az L (S a b c L1):=by apply agx;repeat (first | exact bJ cl | refine aj ?_ cl)):cU P (.loop k) Q L:=by
 refine agE (α:=α × β × γ) (fun x=>S x.1 x.2.1 x.2.2) (fun x=>C x.1 x.2.1 x.2.2) (fun x=>μ x.1 x.2.1 x.2.2) (a,b,c) hC h0 ?_
 rintro⟨a',b',c'⟩ L1 hc
 refine abE (fun e L h=>?_) (hr a' b' c' L1 hc)
 cases e with
 | normal =>
  obtain⟨a1,b1,c1,L2,h1,h2,h3⟩:=h
  exact⟨(a1,b1,c1),L2,h1,h2,h3⟩
 | exit i=>exact h
 | ret=>exact h
theorem s8 {α β γ:Type} {S:α->β->γ->St->St} {C:α->β->γ->Prop} {μ:α->β->γ->Nat} {a:α} {b:β} {c:γ} {L L2:St} (a':α) (b':β) (c':γ) (hc:C a' b' c') (hm:μ a' b' c'<μ a b c:=by omega) (he:az L (S a' b' c' L2):=by apply az.of_eq;repeat (first | exact bJ cl | refine aj ?_ cl)):Nx3 S C μ a b c L:=⟨a',b',c',L2,hc,hm,he⟩
def Nx4 {α β γ δ:Type} (S:α->β->γ->δ->St->St) (C:α->β->γ->δ->Prop) (μ:α->β->γ->δ->Nat) (a:α) (b:β) (c:γ) (d:δ) (L:St):Prop:=∃ a' b' c' d' L2,C a' b' c' d'/\μ a' b' c' d'<μ a b c d/\az L (S a' b' c' d' L2)
theorem lp4 {α β γ δ:Type} {P:Program} {Q:jT->St->Prop} {L:St} {k:Code} (S:α->β->γ->δ->St->St) (C:α->β->γ->δ->Prop) (μ:α->β->γ->δ->Nat) (a:α) (b:β) (c:γ) (d:δ) (hC:C a b c d) (hr:∀ a' b' c' d' L1,C a' b' c' d'->cU P k (oq (Nx4 S C μ a' b' c' d') Q) (S a' b' c' d' L1))
  (h0:∃ L1,az L (S a b c d L1):=by apply agx;repeat (first | exact bJ cl | refine aj ?_ cl)):cU P (.loop k) Q L:=by
 refine agE (α:=α × β × γ × δ) (fun x=>S x.1 x.2.1 x.2.2.1 x.2.2.2) (fun x=>C x.1 x.2.1 x.2.2.1 x.2.2.2) (fun x=>μ x.1 x.2.1 x.2.2.1 x.2.2.2) (a,b,c,d) hC h0 ?_
 rintro⟨a',b',c',d'⟩ L1 hc
 refine abE (fun e L h=>?_) (hr a' b' c' d' L1 hc)
 cases e with
 | normal =>
  obtain⟨a1,b1,c1,d1,L2,h1,h2,h3⟩:=h
  exact⟨(a1,b1,c1,d1),L2,h1,h2,h3⟩
 | exit i=>exact h
 | ret=>exact h
theorem sK {α β γ δ:Type} {S:α->β->γ->δ->St->St} {C:α->β->γ->δ->Prop} {μ:α->β->γ->δ->Nat} {a:α} {b:β} {c:γ} {d:δ} {L L2:St} (a':α) (b':β) (c':γ) (d':δ) (hc:C a' b' c' d') (hm:μ a' b' c' d'<μ a b c d:=by omega) (he:az L (S a' b' c' d' L2):=by apply az.of_eq;repeat (first | exact bJ cl | refine aj ?_ cl)):Nx4 S C μ a b c d L:=⟨a',b',c',d',L2,hc,hm,he⟩
structure V3 where
 x:Rat
 y:Rat
 z:Rat
instance:Inhabited V3:=⟨⟨0,0,0⟩⟩
def aE (p:V3):LV:=.agg [aa p.x,aa p.y,aa p.z]
theorem aX:gY aE 9 true:=by
 refine⟨fun s=>?_,fun s=>rfl,fun s=>?_⟩<;>simp [aE,LV.av,cL,LV.pure,aK,an.av,an.pure]
structure ar where
 p:V3
 w:Rat
instance:Inhabited ar:=⟨⟨⟨0,0,0⟩,0⟩⟩
def bm (q:ar):LV:=.agg [aE q.p,aa q.w]
theorem bz:gY bm 12 true:=by
 refine⟨fun s=>?_,fun s=>rfl,fun s=>?_⟩<;>simp [bm,LV.av,cL,LV.pure,aK,an.av,an.pure,aX.av,aX.pure]
theorem s6 (l:List LV):(LV.agg l).isAgg=true:=rfl
theorem ad0 (c:Value):(LV.v c).isAgg=false:=rfl
theorem laE {p:Prop} (h:p:=by(simp only [List.forall_mem_cons];simp [lay,LV.av,cL,s6,ad0,an.av,bl.av,an.isAgg,bl.isAgg])):p:=h
theorem cs {p:Prop} (h:p:=by first | exact rfl | (simp [LV.av,cL,lay,s6,ad0,an.av,bl.av,aX.av,bz.av,an.isAgg,bl.isAgg,aX.isAgg,bz.isAgg];done)):p:=h
theorem pu {p:Prop} (h:p:=by first | exact rfl | (simp [LV.pure,aK,an.pure,bl.pure,aX.pure,bz.pure, *];done)):p:=h
theorem cr {y:LV} {n:Nat} (hy:y.av=n) (ha:y.isAgg=true):y.at 0 n true=some y:=by
 cases y with
 | agg l=>simp only [LV.av] at hy;simp [LV.at,hy]
 | _=>cases ha
theorem alM (a b:Rat):(aa a).put 0 (aa b)=some (aa b):=yp _ _ (by rw [an.av,an.av]) (by rw [an.isAgg,an.isAgg])
theorem aAA (a b:Rat × Rat):(aD a).put 0 (aD b)=some (aD b):=yp _ _ (by rw [bl.av,bl.av]) (by rw [bl.isAgg,bl.isAgg])
theorem aBc (s:Rat × Rat) (r:Rat):(aD s).put 0 (aa r)=some (aD (r,s.2)):=by
 rw [xQ,xQ];simp [LV.put,qY,cL,an.av,an.isAgg,alM]
theorem aHT (s:Rat × Rat) (r:Rat):(aD s).put 3 (aa r)=some (aD (s.1,r)):=by
 rw [xQ,xQ];simp [LV.put,qY,cL,an.av,an.isAgg,alM]
theorem atp {p:Prop} (h:p:=by first | exact cr (y:=aE _) (aX.av _) rfl | exact cr (y:=bm _) (bz.av _) rfl | exact rfl | (simp only [nu,List.take_succ_cons,List.take_zero,List.take_nil,LV.at,tP,aE,bm,cr,p7,wi,aql,auP,LV.av,cL,an.av,bl.av,an.isAgg,bl.isAgg,Nat.reduceAdd,Nat.reduceLT,Nat.reduceSub,Nat.reduceMul,Nat.add_zero,Nat.zero_add,Int.toNat_natCast,Int.reduceToNat,Int.reduceAdd,Nat.reduceEqDiff,reduceIte,and_true,true_and,and_false,false_and,if_true,if_false,Bool.false_eq_true,Bool.true_eq_false,eq_self,Nat.sub_zero,Nat.lt_irrefl,Nat.sub_self,Nat.zero_mul,Nat.zero_lt_succ]<;>exact rfl)):p:=h
theorem ptp {p:Prop} (h:p:=by first | exact rfl | (simp only [nu,List.take_succ_cons,List.take_zero,List.take_nil,LV.put,qY,aE,bm,LV.av,cL,s6,ad0,an.av,bl.av,an.isAgg,bl.isAgg,alM,aAA,aBc,aHT,Option.map_some,Nat.reduceAdd,Nat.reduceLT,Nat.reduceSub,Nat.reduceMul,Nat.add_zero,Nat.zero_add,Int.toNat_natCast,Int.reduceToNat,Int.reduceAdd,Nat.reduceEqDiff,reduceIte,and_true,true_and,and_false,false_and,if_true,if_false,Bool.false_eq_true,Bool.true_eq_false,eq_self,Nat.sub_zero,Nat.lt_irrefl,Nat.sub_self,Nat.zero_mul,Nat.zero_lt_succ]<;>exact rfl)):p:=h
section
variable {P:Program} {H:b9} {ρ:Operand->LV} {T E:TypeId} {p x i:Operand} {n sz:Nat} {ag:Bool} {fs:List LV} {r:LV} {k:IntKind} {m:Int} {b o j:Nat}
theorem aN.ixa [u:UN P T (.array n E)] [t:TI P E sz ag] (hx:ρ x=.agg fs) (hi:ρ i=.v (.int k m)) (h0:0<=m) (hr:fs[m.toNat]?=some r) (hp:r.pure=true) (hf:fs.map lay=aV n (sz,ag)):aN P H ρ (.index T x i) r:=.ahn hx u.h t.h hf hi h0 hr hp
theorem aN.ixe [u:UN P T (.array n E)] [t:TI P E sz ag] {s2:Nat} (hx:ρ x=.aF b s2 j o) (hi:ρ i=.v (.int k m)) (h0:0<=m) (hm:m<n):aN P H ρ (.indexAddr T x i) (.aF b s2 j (o+m.toNat*sz)):=.adZ hx u.h t.h hi h0 hm
theorem aN.ixb [u:UN P T (.array n E)] [t:TI P E sz ag] (hx:ρ x=.ba (.agg fs)) (hi:ρ i=.v (.int k m)) (h0:0<=m) (hr:fs[m.toNat]?=some r) (hf:fs.map lay=aV n (sz,ag)):aN P H ρ (.indexAddr T x i) (.ba r):=.adJ hx u.h t.h hf hi h0 hr
theorem aN.bda {zs:List LV} {ps:Array (Nat × Operand)} [u:UN P T (.array n E)] [t:TI P E sz ag] [z:ZI P T (.agg zs)] (h:∀ z∈zs,lay z=(sz,ag)) (hp:∀ p∈ps.toList,∃ z,zs[p.1]?=some z/\lay (ρ p.2)=lay z/\ρ p.2≠.any/\∀ m,ρ p.2≠.a9 m) :
  aN P H ρ (.build T ps) (.agg (jK zs (ps.toList.map fun p=>(p.1,ρ p.2)))):=.yT u.h t.h h z.h hp
theorem aN.aFi {o0 o1 o2:Operand} {a b c:Rat} [u:UN P T (.array 3 E)] [t:TI P E 3 true] [z:ZI P T (.agg [aa 0,aa 0,aa 0])] (h0:ρ o0=aa a) (h1:ρ o1=aa b) (h2:ρ o2=aa c) :
  aN P H ρ (.build T #[(0,o0),(1,o1),(2,o2)]) (.agg [aa a,aa b,aa c]):=by
 have:=aN.bda (H:=H) (ρ:=ρ) (ps:=#[(0,o0),(1,o1),(2,o2)]) (u:=u) (t:=t) (z:=z) (by simp [lay,an.av,an.isAgg]) (by
  intro p hp
  simp only [ff,iq,or_false] at hp
  rcases hp with rfl | rfl | rfl
  ·exact amz
  ·exact⟨_,rfl,by rw [h1];simp [lay,an.av,an.isAgg],by rw [h1];exact LV.dT (an.pure _),by rw [h1];exact LV.dG (an.pure _)⟩
  ·exact⟨_,rfl,by rw [h2];simp [lay,an.av,an.isAgg],by rw [h2];exact LV.dT (an.pure _),by rw [h2];exact LV.dG (an.pure _)⟩)
 simpa only [jK,uL,vx,vZ,h0,h1,h2] using this
theorem aN.aIj {o0 o1 o2 o3:Operand} {a b c d:Rat} [u:UN P T (.array 4 E)] [t:TI P E 3 true] [z:ZI P T (.agg [aa 0,aa 0,aa 0,aa 0])] (h0:ρ o0=aa a) (h1:ρ o1=aa b) (h2:ρ o2=aa c) (h3:ρ o3=aa d) :
  aN P H ρ (.build T #[(0,o0),(1,o1),(2,o2),(3,o3)]) (.agg [aa a,aa b,aa c,aa d]):=by
 have:=aN.bda (H:=H) (ρ:=ρ) (ps:=#[(0,o0),(1,o1),(2,o2),(3,o3)]) (u:=u) (t:=t) (z:=z) (by simp [lay,an.av,an.isAgg]) (by
  intro p hp
  simp only [ff,iq,or_false] at hp
  rcases hp with rfl | rfl | rfl | rfl
  ·exact amz
  ·exact⟨_,rfl,by rw [h1];simp [lay,an.av,an.isAgg],by rw [h1];exact LV.dT (an.pure _),by rw [h1];exact LV.dG (an.pure _)⟩
  ·exact⟨_,rfl,by rw [h2];simp [lay,an.av,an.isAgg],by rw [h2];exact LV.dT (an.pure _),by rw [h2];exact LV.dG (an.pure _)⟩
  ·exact⟨_,rfl,by rw [h3];simp [lay,an.av,an.isAgg],by rw [h3];exact LV.dT (an.pure _),by rw [h3];exact LV.dG (an.pure _)⟩)
 simpa only [jK,uL,vx,vZ,h0,h1,h2,h3] using this
theorem aN.aHd {o0 o1:Operand} {a b:Rat} [u:UN P T (.array 2 E)] [t:TI P E 3 true] [z:ZI P T (.agg [aa 0,aa 0])] (h0:ρ o0=aa a) (h1:ρ o1=aa b):aN P H ρ (.build T #[(0,o0),(1,o1)]) (.agg [aa a,aa b]):=by
 have:=aN.bda (H:=H) (ρ:=ρ) (ps:=#[(0,o0),(1,o1)]) (u:=u) (t:=t) (z:=z) (by simp [lay,an.av,an.isAgg]) (by
  intro p hp
  simp only [ff,iq,or_false] at hp
  rcases hp with rfl | rfl
  ·exact amz
  ·exact⟨_,rfl,by rw [h1];simp [lay,an.av,an.isAgg],by rw [h1];exact LV.dT (an.pure _),by rw [h1];exact LV.dG (an.pure _)⟩)
 simpa only [jK,uL,vx,vZ,h0,h1] using this
theorem aN.aA4 {o0 o1 o2:Operand} {a b c d e f:Rat} [u:UN P T (.array 3 E)] [t:TI P E 6 true] [z:ZI P T (.agg [.agg [aa 0,aa 0],.agg [aa 0,aa 0],.agg [aa 0,aa 0]])]
  (h0:ρ o0=.agg [aa a,aa b]) (h1:ρ o1=.agg [aa c,aa d]) (h2:ρ o2=.agg [aa e,aa f]):aN P H ρ (.build T #[(0,o0),(1,o1),(2,o2)]) (.agg [.agg [aa a,aa b],.agg [aa c,aa d],.agg [aa e,aa f]]):=by
 have:=aN.bda (H:=H) (ρ:=ρ) (ps:=#[(0,o0),(1,o1),(2,o2)]) (u:=u) (t:=t) (z:=z) (by simp [lay,LV.av,cL,an.av,s6]) (by
  intro p hp
  simp only [ff,iq,or_false] at hp
  rcases hp with rfl | rfl | rfl
  ·exact⟨_,rfl,by rw [h0];simp [lay,LV.av,cL,an.av,s6],by rw [h0];exact(fun h=>LV.noConfusion h),by rw [h0];exact(fun _ h=>LV.noConfusion h)⟩
  ·exact⟨_,rfl,by rw [h1];simp [lay,LV.av,cL,an.av,s6],by rw [h1];exact(fun h=>LV.noConfusion h),by rw [h1];exact(fun _ h=>LV.noConfusion h)⟩
  ·exact⟨_,rfl,by rw [h2];simp [lay,LV.av,cL,an.av,s6],by rw [h2];exact(fun h=>LV.noConfusion h),by rw [h2];exact(fun _ h=>LV.noConfusion h)⟩)
 simpa only [jK,uL,vx,vZ,h0,h1,h2] using this
theorem aN.ldp {vals:List LV} {y:LV} {mt:Bool} [t:TI P T n ag] (hp:ρ p=.aF b sz j o) (hb:H b=some ⟨sz,vals,mt⟩) (hi:vals[j]?=some y) (hy:y.av=sz) (hr:y.at o n ag=some r):aN P H ρ (.load T p) r:=.dU hp hb rfl hi hy hr t.h
theorem aN.l9 {c:LV} [t:TI P T n ag] (hp:ρ p=.ba c) (hc:c.pure=true) (hs:c.av=n) (ha:c.isAgg=ag):aN P H ρ (.load T p) c:=.abz hp (by rw [hs,ha];exact t.h) hc
theorem gR.jd {L:St} {vals:List LV} {y y' v:LV} {dst:Option Tmp} [t:TI P T n ag] (hp:L.ev p=.aF b sz j o) (hb:L.heap b=some ⟨sz,vals,true⟩) (hi:vals[j]?=some y) (hx:L.ev x=v) (hy:y.av=sz) (hv:v.av=n) (r9:v.isAgg=ag) (pJ:y.put o v=some y') (bj:v≠.any/\∀ m,v≠.a9 m) :
  gR P L dst (.store T p x) ((L.bU b (some ⟨sz,vals.set j y',true⟩)).put dst .any):=.store hp hb rfl rfl hi hy (by rw [hx];exact pJ) (by rw [hx,hv,r9];exact t.h) (by rw [hx];exact bj)
end
theorem nx_ {z x:LV} {zs:List LV} {k:Nat} (h1:zs[k]?=some z) (h2:lay x=lay z) (h3:x≠.any/\∀ m,x≠.a9 m):∃ z,zs[k]?=some z/\lay x=lay z/\x≠.any/\∀ m,x≠.a9 m:=⟨z,h1,h2,h3⟩
theorem ahi {p:Prop} (h:p:=by(simp only [List.forall_mem_cons];repeat (first | exact(fun _ h=>by cases h) | refine⟨nx_ rfl cs jH,?_⟩))):p:=h
structure iG (q:Prop):Prop where
 h:q
theorem dE {P:Program} {H:b9} {ρ:Operand->LV} {T:TypeId} {p:Operand} {x:LV} (h:aN P H ρ (.load T p) x:=by first | (apply aN.ldB;exact rfl) | exact .aGx rfl rfl rfl TI.h | exact .aIq rfl rfl rfl TI.h | (apply aN.ldE;exact rfl;exact rfl;exact om) | exact .aED rfl rfl rfl TI.h | exact .aBP rfl rfl rfl TI.h | exact .aG5 rfl rfl rfl TI.h | exact .aHo rfl rfl rfl TI.h | exact .aIh rfl rfl rfl TI.h | exact .dU rfl rfl rfl rfl rfl rfl TI.h | (apply aN.ldp;exact rfl;exact rfl;exact rfl;exact cs;exact atp) | (apply aN.l9;exact rfl;exact pu;exact cs;exact cs)):aN P H ρ (.load T p) x:=h
section
variable {P:Program} {H:b9} {ρ:Operand->LV} {T U:TypeId} {x y:Operand}
theorem aN.aI {a b:Int} (hx:ρ x=.v (.int .i64 a)) (hy:ρ y=.v (.int .i64 b)) (h1:-9223372036854775808<=a+b) (h2:a+b<=9223372036854775807):aN P H ρ (.binOp .add T x y U) (.v (.int .i64 (a+b))):=.bin hx hy (zj h1 h2)
theorem aN.sI {a b:Int} (hx:ρ x=.v (.int .i64 a)) (hy:ρ y=.v (.int .i64 b)) (h1:-9223372036854775808<=a-b) (h2:a-b<=9223372036854775807):aN P H ρ (.binOp .sub T x y U) (.v (.int .i64 (a-b))):=.bin hx hy (aaa h1 h2)
theorem aN.mI {a b:Int} (hx:ρ x=.v (.int .i64 a)) (hy:ρ y=.v (.int .i64 b)) (h1:-9223372036854775808<=a*b) (h2:a*b<=9223372036854775807):aN P H ρ (.binOp .mul T x y U) (.v (.int .i64 (a*b))):=.bin hx hy (afh h1 h2)
theorem aN.aU {a b:Nat} (hx:ρ x=.v (.int .u64 (a:Nat))) (hy:ρ y=.v (.int .u64 (b:Nat))) (h:a+b<18446744073709551616):aN P H ρ (.binOp .add T x y U) (.v (.int .u64 ((a+b:Nat):Int))):=.bin hx hy (asP h)
theorem aN.mU {a b:Nat} (hx:ρ x=.v (.int .u64 (a:Nat))) (hy:ρ y=.v (.int .u64 (b:Nat))) (h:a*b<18446744073709551616):aN P H ρ (.binOp .mul T x y U) (.v (.int .u64 ((a*b:Nat):Int))):=.bin hx hy (acw h)
theorem aN.sU {a b:Nat} (hx:ρ x=.v (.int .u64 (a:Nat))) (hy:ρ y=.v (.int .u64 (b:Nat))) (h:b<=a) (h1:a<18446744073709551616):aN P H ρ (.binOp .sub T x y U) (.v (.int .u64 ((a-b:Nat):Int))):=.bin hx hy (ati h h1)
theorem aN.qU {a b:Nat} (hx:ρ x=.v (.int .u64 (a:Nat))) (hy:ρ y=.v (.int .u64 (b:Nat))) (h:0<b) (h1:a<18446744073709551616):aN P H ρ (.binOp .quo T x y U) (.v (.int .u64 ((a/b:Nat):Int))):=.bin hx hy (aiK h h1)
theorem aN.rU {a b:Nat} (hx:ρ x=.v (.int .u64 (a:Nat))) (hy:ρ y=.v (.int .u64 (b:Nat))) (h:0<b):aN P H ρ (.binOp .rem T x y U) (.v (.int .u64 ((a % b:Nat):Int))):=.bin hx hy (aml h)
theorem aN.oU {a b:Nat} (hx:ρ x=.v (.int .u64 ((a*4294967296:Nat):Int))) (hy:ρ y=.v (.int .u64 (b:Nat))) (h:b<4294967296) (h1:a<4294967296):aN P H ρ (.binOp .or T x y U) (.v (.int .u64 ((a*4294967296+b:Nat):Int))):=.bin hx hy (orU h h1)
theorem aN.hl {a:Nat} {k:IntKind} (hx:ρ x=.v (.int .u64 (a:Nat))) (hy:ρ y=.v (.int k 32)) (h:a*4294967296<18446744073709551616):aN P H ρ (.binOp .shl T x y U) (.v (.int .u64 ((a*4294967296:Nat):Int))):=.sh hx hy (aeJ h)
theorem aN.hr {a:Nat} {k:IntKind} (hx:ρ x=.v (.int .u64 (a:Nat))) (hy:ρ y=.v (.int k 32)):aN P H ρ (.binOp .shr T x y U) (.v (.int .u64 ((a/4294967296:Nat):Int))):=.sh hx hy aIG
theorem aN.aDn {a:Nat} {k:IntKind} (hx:ρ x=.v (.int .u64 (a:Nat))) (hy:ρ y=.v (.int k 63)):aN P H ρ (.binOp .shr T x y U) (.v (.int .u64 ((a/9223372036854775808:Nat):Int))):=.sh hx hy aGL
end
theorem biA {P:Program} {H:b9} {ρ:Operand->LV} {o:BinOp} {T U:TypeId} {p y:Operand} {x:LV} (h:aN P H ρ (.binOp o T p y U) x:=by first | (apply aN.cmp;exact rfl;exact rfl;exact rfl;exact rfl) | (apply aN.aI;exact rfl;exact rfl;exact om;exact om) | (apply aN.sI;exact rfl;exact rfl;exact om;exact om) | (apply aN.mI;exact rfl;exact rfl;exact om;exact om) | (apply aN.aU;exact rfl;exact rfl;exact om) | (apply aN.mU;exact rfl;exact rfl;exact om) | (apply aN.sU;exact rfl;exact rfl;exact om;exact om) | (apply aN.qU;exact rfl;exact rfl;exact om;exact om) | (apply aN.rU;exact rfl;exact rfl;exact om) | (apply aN.oU;exact rfl;exact rfl;exact om;exact om) | (apply aN.hl;exact rfl;exact rfl;exact om) | (apply aN.hr;exact rfl;exact rfl) | (apply aN.aDn;exact rfl;exact rfl) | (apply aN.beq;exact rfl;exact rfl;exact UN.h) | (apply aN.bne;exact rfl;exact rfl;exact UN.h)):aN P H ρ (.binOp o T p y U) x:=h
theorem pM {P:Program} {H:b9} {ρ:Operand->LV} {b:Builtin} {xs:Array Operand} {as:Array TypeId} {x:LV} (h:aN P H ρ (.call ⟨.builtin b,xs,as⟩) x:=by first | exact .ayA rfl rfl UN.h | exact .abK rfl rfl UN.h | exact .ac4 rfl rfl UN.h | exact .adg rfl rfl UN.h | exact .ad8 rfl rfl UN.h | exact .acK rfl rfl UN.h | exact .min2 rfl rfl | exact .max2 rfl rfl):aN P H ρ (.call ⟨.builtin b,xs,as⟩) x:=h
theorem srA {P:Program} {L L':St} {dst:Option Tmp} {T:TypeId} {p x:Operand} (h:gR P L dst (.store T p x) L':=by first | exact .aBo rfl rfl rfl rfl TI.h | exact .azF rfl rfl rfl TI.h | exact .aIK rfl rfl rfl TI.h | (apply gR.stE;exact rfl;exact rfl;exact rfl;exact om) | exact .store rfl rfl rfl rfl rfl rfl rfl TI.h jH | (apply gR.jd;exact rfl;exact rfl;exact rfl;(first | exact(rfl:_=aa _) | exact(rfl:_=aE _) | exact(rfl:_=bm _) | exact(rfl:_=aD _) | exact(rfl:_=LV.agg _) | exact rfl);exact cs;exact cs;exact cs;exact ptp;exact jH)):gR P L dst (.store T p x) L':=h
theorem cvA {P:Program} {H:b9} {ρ:Operand->LV} {S D:TypeId} {p:Operand} {x:LV} (h:aN P H ρ (.convert S D p) x:=by first | exact .ayu UN.h UN.h rfl | (apply aN.aiZ;exact UN.h;exact UN.h;exact rfl;exact om) | (apply aN.cvI;exact UN.h;exact UN.h;exact rfl;exact om;exact om) | exact .conv UN.h UN.h rfl):aN P H ρ (.convert S D p) x:=h
theorem akV {P:Program} {T:TypeId} {l:List (Nat × Bool)} {fs:List LV} (h:kR P T l) (e:fs.map lay=l):kR P T (fs.map lay):=e ▸ h
theorem avU {P:Program} {H:b9} {ρ:Operand->LV} {T:TypeId} {p i:Operand} {x:LV} (h:aN P H ρ (.index T p i) x:=by(apply aN.ixa;exact rfl;exact rfl;exact om;exact rfl;exact pu;exact cs)):aN P H ρ (.index T p i) x:=h
theorem gr {P:Program} {H:b9} {ρ:Operand->LV} {T:TypeId} {p:Operand} {k:Nat} {x:LV} (h:aN P H ρ (.fieldAddr T p k) x:=by first | exact .adC rfl SI.h ai | exact .abt rfl SI.h rfl | (refine .abt rfl (akV SI.h cs) rfl)):aN P H ρ (.fieldAddr T p k) x:=h
theorem wY {P:Program} {H:b9} {ρ:Operand->LV} {T:TypeId} {p i:Operand} {x:LV} (h:aN P H ρ (.indexAddr T p i) x:=by first | (apply aN.ixL;exact rfl;exact rfl;exact om;exact om) | (apply aN.ixR;exact rfl;exact rfl;exact om;exact om) | (apply aN.ixe;exact rfl;exact rfl;exact om;exact om) | (apply aN.ixb;exact rfl;exact rfl;exact om;exact rfl;exact cs)):aN P H ρ (.indexAddr T p i) x:=h
section
variable {P:Program} {dr:Bool} {ops:Array Oper} {rest:List Oper} {L L':St} {K:St->Prop} {dst:Option Tmp} {d:Nat} {ty:TypeId} {pos:String} {af:Array Edge} {j:Nat} {w:Bool} {r:LV} {bk:bA}
theorem ayE {T:TypeId} {p:Operand} (h:aN P L.heap L.ev (.load T p) r) (kk:opsL P dr ops rest (L.put dst r) K):opsL P dr ops (⟨dst,(.load T p),ty,pos,af,none⟩ :: rest) L K:=ah rfl h kk
theorem aCT {T:TypeId} {p:Operand} (hg:eE ops L ⟨dst,(.load T p),ty,pos,af,some (j,w)⟩ true) (h:aN P L.heap L.ev (.load T p) r) (kk:opsL P dr ops rest (L.put dst r) K):opsL P dr ops (⟨dst,(.load T p),ty,pos,af,some (j,w)⟩ :: rest) L K:=ah hg h kk
theorem aHK {o:BinOp} {T U:TypeId} {p y:Operand} (h:aN P L.heap L.ev (.binOp o T p y U) r) (kk:opsL P dr ops rest (L.put dst r) K):opsL P dr ops (⟨dst,(.binOp o T p y U),ty,pos,af,none⟩ :: rest) L K:=ah rfl h kk
theorem azg {o:BinOp} {T U:TypeId} {p y:Operand} (hg:eE ops L ⟨dst,(.binOp o T p y U),ty,pos,af,some (j,w)⟩ true) (h:aN P L.heap L.ev (.binOp o T p y U) r) (kk:opsL P dr ops rest (L.put dst r) K):opsL P dr ops (⟨dst,(.binOp o T p y U),ty,pos,af,some (j,w)⟩ :: rest) L K:=ah hg h kk
theorem aDm {b:Builtin} {xs:Array Operand} {as:Array TypeId} (h:aN P L.heap L.ev (.call ⟨.builtin b,xs,as⟩) r) (kk:opsL P dr ops rest (L.put dst r) K):opsL P dr ops (⟨dst,(.call ⟨.builtin b,xs,as⟩),ty,pos,af,none⟩ :: rest) L K:=ah rfl h kk
theorem aI9 {b:Builtin} {xs:Array Operand} {as:Array TypeId} (hg:eE ops L ⟨dst,(.call ⟨.builtin b,xs,as⟩),ty,pos,af,some (j,w)⟩ true) (h:aN P L.heap L.ev (.call ⟨.builtin b,xs,as⟩) r) (kk:opsL P dr ops rest (L.put dst r) K):opsL P dr ops (⟨dst,(.call ⟨.builtin b,xs,as⟩),ty,pos,af,some (j,w)⟩ :: rest) L K:=ah hg h kk
theorem aDs {T:TypeId} {p:Operand} {k:Nat} (h:aN P L.heap L.ev (.fieldAddr T p k) r) (kk:opsL P dr ops rest (L.put dst r) K):opsL P dr ops (⟨dst,(.fieldAddr T p k),ty,pos,af,none⟩ :: rest) L K:=ah rfl h kk
theorem aI6 {T:TypeId} {p:Operand} {k:Nat} (hg:eE ops L ⟨dst,(.fieldAddr T p k),ty,pos,af,some (j,w)⟩ true) (h:aN P L.heap L.ev (.fieldAddr T p k) r) (kk:opsL P dr ops rest (L.put dst r) K):opsL P dr ops (⟨dst,(.fieldAddr T p k),ty,pos,af,some (j,w)⟩ :: rest) L K:=ah hg h kk
theorem aFV {T:TypeId} {p y:Operand} (h:aN P L.heap L.ev (.index T p y) r) (kk:opsL P dr ops rest (L.put dst r) K):opsL P dr ops (⟨dst,(.index T p y),ty,pos,af,none⟩ :: rest) L K:=ah rfl h kk
theorem ay5 {T:TypeId} {p y:Operand} (hg:eE ops L ⟨dst,(.index T p y),ty,pos,af,some (j,w)⟩ true) (h:aN P L.heap L.ev (.index T p y) r) (kk:opsL P dr ops rest (L.put dst r) K):opsL P dr ops (⟨dst,(.index T p y),ty,pos,af,some (j,w)⟩ :: rest) L K:=ah hg h kk
theorem aEE {T:TypeId} {p y:Operand} (h:aN P L.heap L.ev (.indexAddr T p y) r) (kk:opsL P dr ops rest (L.put dst r) K):opsL P dr ops (⟨dst,(.indexAddr T p y),ty,pos,af,none⟩ :: rest) L K:=ah rfl h kk
theorem aHJ {T:TypeId} {p y:Operand} (hg:eE ops L ⟨dst,(.indexAddr T p y),ty,pos,af,some (j,w)⟩ true) (h:aN P L.heap L.ev (.indexAddr T p y) r) (kk:opsL P dr ops rest (L.put dst r) K):opsL P dr ops (⟨dst,(.indexAddr T p y),ty,pos,af,some (j,w)⟩ :: rest) L K:=ah hg h kk
theorem azK {p:Operand} {k:Nat} (h:aN P L.heap L.ev (.extract p k) r) (kk:opsL P dr ops rest (L.put dst r) K):opsL P dr ops (⟨dst,(.extract p k),ty,pos,af,none⟩ :: rest) L K:=ah rfl h kk
theorem aIF {p:Operand} {k:Nat} (hg:eE ops L ⟨dst,(.extract p k),ty,pos,af,some (j,w)⟩ true) (h:aN P L.heap L.ev (.extract p k) r) (kk:opsL P dr ops rest (L.put dst r) K):opsL P dr ops (⟨dst,(.extract p k),ty,pos,af,some (j,w)⟩ :: rest) L K:=ah hg h kk
theorem ay3 {p y z:Operand} (h:aN P L.heap L.ev (.pick p y z) r) (kk:opsL P dr ops rest (L.put dst r) K):opsL P dr ops (⟨dst,(.pick p y z),ty,pos,af,none⟩ :: rest) L K:=ah rfl h kk
theorem aAJ {p y z:Operand} (hg:eE ops L ⟨dst,(.pick p y z),ty,pos,af,some (j,w)⟩ true) (h:aN P L.heap L.ev (.pick p y z) r) (kk:opsL P dr ops rest (L.put dst r) K):opsL P dr ops (⟨dst,(.pick p y z),ty,pos,af,some (j,w)⟩ :: rest) L K:=ah hg h kk
theorem aEc {T U:TypeId} {p:Operand} (h:aN P L.heap L.ev (.convert T U p) r) (kk:opsL P dr ops rest (L.put dst r) K):opsL P dr ops (⟨dst,(.convert T U p),ty,pos,af,none⟩ :: rest) L K:=ah rfl h kk
theorem aBD {T U:TypeId} {p:Operand} (hg:eE ops L ⟨dst,(.convert T U p),ty,pos,af,some (j,w)⟩ true) (h:aN P L.heap L.ev (.convert T U p) r) (kk:opsL P dr ops rest (L.put dst r) K):opsL P dr ops (⟨dst,(.convert T U p),ty,pos,af,some (j,w)⟩ :: rest) L K:=ah hg h kk
theorem aCN {u:UnOp} {T:TypeId} {p:Operand} (h:aN P L.heap L.ev (.unOp u T p) r) (kk:opsL P dr ops rest (L.put dst r) K):opsL P dr ops (⟨dst,(.unOp u T p),ty,pos,af,none⟩ :: rest) L K:=ah rfl h kk
theorem ayD {u:UnOp} {T:TypeId} {p:Operand} (hg:eE ops L ⟨dst,(.unOp u T p),ty,pos,af,some (j,w)⟩ true) (h:aN P L.heap L.ev (.unOp u T p) r) (kk:opsL P dr ops rest (L.put dst r) K):opsL P dr ops (⟨dst,(.unOp u T p),ty,pos,af,some (j,w)⟩ :: rest) L K:=ah hg h kk
theorem aFD {T:TypeId} {p:Operand} {k:Nat} (h:aN P L.heap L.ev (.field T p k) r) (kk:opsL P dr ops rest (L.put dst r) K):opsL P dr ops (⟨dst,(.field T p k),ty,pos,af,none⟩ :: rest) L K:=ah rfl h kk
theorem aCJ {T:TypeId} {p:Operand} {k:Nat} (hg:eE ops L ⟨dst,(.field T p k),ty,pos,af,some (j,w)⟩ true) (h:aN P L.heap L.ev (.field T p k) r) (kk:opsL P dr ops rest (L.put dst r) K):opsL P dr ops (⟨dst,(.field T p k),ty,pos,af,some (j,w)⟩ :: rest) L K:=ah hg h kk
theorem aBG {p:Operand} (h:aN P L.heap L.ev (.nilCheck p) r) (kk:opsL P dr ops rest (L.put dst r) K):opsL P dr ops (⟨dst,(.nilCheck p),ty,pos,af,none⟩ :: rest) L K:=ah rfl h kk
theorem aBQ {p:Operand} (hg:eE ops L ⟨dst,(.nilCheck p),ty,pos,af,some (j,w)⟩ true) (h:aN P L.heap L.ev (.nilCheck p) r) (kk:opsL P dr ops rest (L.put dst r) K):opsL P dr ops (⟨dst,(.nilCheck p),ty,pos,af,some (j,w)⟩ :: rest) L K:=ah hg h kk
theorem aag {T:TypeId} {ps:Array (Nat × Operand)} (h:aN P L.heap L.ev (.build T ps) r) (kk:opsL P dr ops rest (L.put dst r) K):opsL P dr ops (⟨dst,(.build T ps),ty,pos,af,none⟩ :: rest) L K:=ah rfl h kk
theorem aHf {T:TypeId} {ps:Array (Nat × Operand)} (hg:eE ops L ⟨dst,(.build T ps),ty,pos,af,some (j,w)⟩ true) (h:aN P L.heap L.ev (.build T ps) r) (kk:opsL P dr ops rest (L.put dst r) K):opsL P dr ops (⟨dst,(.build T ps),ty,pos,af,some (j,w)⟩ :: rest) L K:=ah hg h kk
theorem aGZ {p:Operand} (hg:eE ops L ⟨dst,(.move p),ty,pos,af,some (j,w)⟩ true) (h:aN P L.heap L.ev (.move p) r) (kk:opsL P dr ops rest (L.put dst r) K):opsL P dr ops (⟨dst,(.move p),ty,pos,af,some (j,w)⟩ :: rest) L K:=ah hg h kk
theorem aJc {p:Operand} (hg:eE ops L ⟨dst,(.assign p),ty,pos,af,some (j,w)⟩ true) (h:aN P L.heap L.ev (.assign p) r) (kk:opsL P dr ops rest (L.put dst r) K):opsL P dr ops (⟨dst,(.assign p),ty,pos,af,some (j,w)⟩ :: rest) L K:=ah hg h kk
theorem aDz {T:TypeId} {p:Operand} (hd:L.heap d=none) (h:dA P L.ev d (.box T p) r bk) (kk:opsL P dr ops rest ((L.bU d (some bk)).put (some d) r) K):opsL P dr ops (⟨some d,(.box T p),ty,pos,af,none⟩ :: rest) L K:=dF rfl hd h kk
theorem aBW {T:TypeId} {p:Operand} (hg:eE ops L ⟨some d,(.box T p),ty,pos,af,some (j,w)⟩ true) (hd:L.heap d=none) (h:dA P L.ev d (.box T p) r bk) (kk:opsL P dr ops rest ((L.bU d (some bk)).put (some d) r) K):opsL P dr ops (⟨some d,(.box T p),ty,pos,af,some (j,w)⟩ :: rest) L K:=dF hg hd h kk
theorem aG6 {T:TypeId} (hd:L.heap d=none) (h:dA P L.ev d (.alloc T) r bk) (kk:opsL P dr ops rest ((L.bU d (some bk)).put (some d) r) K):opsL P dr ops (⟨some d,(.alloc T),ty,pos,af,none⟩ :: rest) L K:=dF rfl hd h kk
theorem azp {T:TypeId} (hg:eE ops L ⟨some d,(.alloc T),ty,pos,af,some (j,w)⟩ true) (hd:L.heap d=none) (h:dA P L.ev d (.alloc T) r bk) (kk:opsL P dr ops rest ((L.bU d (some bk)).put (some d) r) K):opsL P dr ops (⟨some d,(.alloc T),ty,pos,af,some (j,w)⟩ :: rest) L K:=dF hg hd h kk
theorem aHV {T:TypeId} {n:Nat} {ps:Array (Nat × Operand)} (hd:L.heap d=none) (h:dA P L.ev d (.buildSlice T n ps) r bk) (kk:opsL P dr ops rest ((L.bU d (some bk)).put (some d) r) K):opsL P dr ops (⟨some d,(.buildSlice T n ps),ty,pos,af,none⟩ :: rest) L K:=dF rfl hd h kk
theorem aGA {T:TypeId} {n:Nat} {ps:Array (Nat × Operand)} (hg:eE ops L ⟨some d,(.buildSlice T n ps),ty,pos,af,some (j,w)⟩ true) (hd:L.heap d=none) (h:dA P L.ev d (.buildSlice T n ps) r bk) (kk:opsL P dr ops rest ((L.bU d (some bk)).put (some d) r) K):opsL P dr ops (⟨some d,(.buildSlice T n ps),ty,pos,af,some (j,w)⟩ :: rest) L K:=dF hg hd h kk
theorem aBe {T:TypeId} {p y:Operand} (h:gR P L dst (.store T p y) L') (kk:opsL P dr ops rest L' K):opsL P dr ops (⟨dst,.store T p y,ty,pos,af,none⟩ :: rest) L K:=bO rfl h kk
theorem aJN {T:TypeId} {p y:Operand} (hg:eE ops L ⟨dst,.store T p y,ty,pos,af,some (j,w)⟩ true) (h:gR P L dst (.store T p y) L') (kk:opsL P dr ops rest L' K):opsL P dr ops (⟨dst,.store T p y,ty,pos,af,some (j,w)⟩ :: rest) L K:=bO hg h kk
theorem aGX {op:Op} (hg:eE ops L ⟨dst,op,ty,pos,af,some (j,w)⟩ false) (kk:opsL P dr ops rest (L.put dst (.a9 [])) K):opsL P dr ops (⟨dst,op,ty,pos,af,some (j,w)⟩ :: rest) L K:=yd hg kk
end
theorem oE {p:Prop} (h:p:=by first | exact aM (v:=true) rfl rfl uR rfl | exact aM (v:=false) rfl rfl uR rfl):p:=h
theorem zGf {p:Prop} (h:p:=by first | exact aM (v:=true) rfl rfl uR rfl | exact aM (v:=false) rfl rfl uR rfl | exact aDU rfl rfl):p:=h
theorem iX {p q:Prop} (k:q) (h:iG q->p:=by intro kk;first | (apply aFt;exact kk.h) | (apply aID;exact kk.h) | (apply mv;exact kk.h) | (apply asg;exact kk.h) | (apply r8;exact nf;exact kk.h) | (apply aFp;exact kk.h) | (apply ayE;exact dE;exact kk.h) | (apply aHK;exact biA;exact kk.h) | (apply aDm;exact pM;exact kk.h) | (apply aDs;exact gr;exact kk.h) | (apply aEE;exact wY;exact kk.h) | (apply aFV;exact avU;exact kk.h) | (apply azK;exact .extract rfl rfl nt0;exact kk.h) | (apply aBe;exact srA;exact kk.h) | (apply aDz;exact rfl;(first | (apply dA.og;exact rfl) | exact .box jH);exact kk.h) | (apply aG6;exact rfl;(first | exact .alE | exact .alloc ZI.h);exact kk.h) | (apply ay3;(first | exact .gU rfl uR | exact .m9 rfl uR);exact kk.h) | (apply aEc;exact cvA;exact kk.h) | (apply aCN;(first | exact .not rfl | exact .neg rfl);exact kk.h) | (apply aFD;(first | exact .field rfl SI.h rfl rfl | exact .field rfl (akV SI.h cs) rfl pu);exact kk.h) | (apply aHV;exact rfl;(first | (apply dA.l1;exact rfl;decide;decide) | exact .l0 | (apply dA.l2;exact rfl;exact rfl;decide;decide) | (apply dA.l3;exact rfl;exact rfl;exact rfl;decide;decide) | (apply dA.l4;exact rfl;exact rfl;exact rfl;exact rfl;decide;decide));exact kk.h) | (apply aag;(first | exact .aFi rfl rfl rfl | exact .aIj rfl rfl rfl rfl | exact .aHd rfl rfl | exact .aA4 rfl rfl rfl | exact .axo SI.h ZI.h rfl rfl | exact .bd rfl nes | exact .bd cs ahi | exact .bda laE ahi);exact kk.h) | (apply aBG;(first | exact .afb rfl | exact .aeN rfl);exact kk.h) | (apply aCG;exact kk.h) | (apply aAm;exact kk.h) | (apply aGl;exact kk.h) | (apply aGv;exact kk.h) | (apply azA;exact kk.h) | (apply bI;exact rfl;exact uR;exact kk.h) | (apply dp;exact rfl;exact uR;exact kk.h) | (apply aFm;exact kk.h) | (apply aJ3;exact kk.h) | (apply aAx;exact kk.h) | (apply aA0;exact kk.h) | (apply aDS;decide;exact kk.h) | (apply aGX;exact zGf;exact kk.h) | (apply aGZ;exact oE;(exact .move _);exact kk.h) | (apply aCT;exact oE;(exact dE);exact kk.h) | (apply azg;exact oE;(exact biA);exact kk.h) | (apply aI9;exact oE;(exact pM);exact kk.h) | (apply aI6;exact oE;(exact gr);exact kk.h) | (apply aHJ;exact oE;(exact wY);exact kk.h) | (apply ay5;exact oE;(exact avU);exact kk.h) | (apply aIF;exact oE;(exact .extract rfl rfl nt0);exact kk.h) | (apply aJN;exact oE;exact srA;exact kk.h) | (apply aJc;exact oE;(exact .assign _);exact kk.h) | (apply aBW;exact oE;exact rfl;(first | (apply dA.og;exact rfl) | exact .box jH);exact kk.h) | (apply azp;exact oE;exact rfl;(first | exact .alE | exact .alloc ZI.h);exact kk.h) | (apply aAJ;exact oE;(first | exact .gU rfl uR | exact .m9 rfl uR);exact kk.h) | (apply aBD;exact oE;(exact cvA);exact kk.h) | (apply ayD;exact oE;(first | exact .not rfl | exact .neg rfl);exact kk.h) | (apply aCJ;exact oE;(first | exact .field rfl SI.h rfl rfl | exact .field rfl (akV SI.h cs) rfl pu);exact kk.h) | (apply aGA;exact oE;exact rfl;(first | (apply dA.l1;exact rfl;decide;decide) | exact .l0 | (apply dA.l2;exact rfl;exact rfl;decide;decide) | (apply dA.l3;exact rfl;exact rfl;exact rfl;decide;decide) | (apply dA.l4;exact rfl;exact rfl;exact rfl;exact rfl;decide;decide));exact kk.h) | (apply aHf;exact oE;(first | exact .axo SI.h ZI.h rfl rfl | exact .bd rfl nes | exact .bd cs ahi | exact .bda laE ahi);exact kk.h) | (apply aBQ;exact oE;(first | exact .afb rfl | exact .aeN rfl);exact kk.h)):p:=h ⟨k⟩
theorem ao {p q:Prop} (k:q) (h:iG q->p:=by intro hq;(iterate 1 refine iX ?_);exact hq.h):p:=h ⟨k⟩
theorem aH {p q:Prop} (k:q) (h:iG q->p:=by intro hq;(iterate 2 refine iX ?_);exact hq.h):p:=h ⟨k⟩
theorem aQ {p q:Prop} (k:q) (h:iG q->p:=by intro hq;(iterate 3 refine iX ?_);exact hq.h):p:=h ⟨k⟩
theorem aB {p q:Prop} (k:q) (h:iG q->p:=by intro hq;(iterate 4 refine iX ?_);exact hq.h):p:=h ⟨k⟩
theorem a7 {p q:Prop} (k:q) (h:iG q->p:=by intro hq;(iterate 5 refine iX ?_);exact hq.h):p:=h ⟨k⟩
theorem ay {p q:Prop} (k:q) (h:iG q->p:=by intro hq;(iterate 6 refine iX ?_);exact hq.h):p:=h ⟨k⟩
theorem bf {p q:Prop} (k:q) (h:iG q->p:=by intro hq;(iterate 7 refine iX ?_);exact hq.h):p:=h ⟨k⟩
theorem bg {p q:Prop} (k:q) (h:iG q->p:=by intro hq;(iterate 8 refine iX ?_);exact hq.h):p:=h ⟨k⟩
theorem bB {p q:Prop} (k:q) (h:iG q->p:=by intro hq;(iterate 9 refine iX ?_);exact hq.h):p:=h ⟨k⟩
theorem bh {p q:Prop} (k:q) (h:iG q->p:=by intro hq;(iterate 10 refine iX ?_);exact hq.h):p:=h ⟨k⟩
theorem bC {p q:Prop} (k:q) (h:iG q->p:=by intro hq;(iterate 11 refine iX ?_);exact hq.h):p:=h ⟨k⟩
theorem bw {p q:Prop} (k:q) (h:iG q->p:=by intro hq;(iterate 12 refine iX ?_);exact hq.h):p:=h ⟨k⟩
theorem dk {p q:Prop} (k:q) (h:iG q->p:=by intro hq;(iterate 13 refine iX ?_);exact hq.h):p:=h ⟨k⟩
theorem df {p q:Prop} (k:q) (h:iG q->p:=by intro hq;(iterate 14 refine iX ?_);exact hq.h):p:=h ⟨k⟩
theorem eQ {p q:Prop} (k:q) (h:iG q->p:=by intro hq;(iterate 15 refine iX ?_);exact hq.h):p:=h ⟨k⟩
theorem nm {p q:Prop} (k:q) (h:iG q->p:=by intro hq;(iterate 16 refine iX ?_);exact hq.h):p:=h ⟨k⟩
theorem iY {p q:Prop} (k:q) (h:iG q->p:=by intro hq;(iterate 17 refine iX ?_);exact hq.h):p:=h ⟨k⟩
theorem nO {p q:Prop} (k:q) (h:iG q->p:=by intro hq;(iterate 18 refine iX ?_);exact hq.h):p:=h ⟨k⟩
theorem nc {p q:Prop} (k:q) (h:iG q->p:=by intro hq;(iterate 19 refine iX ?_);exact hq.h):p:=h ⟨k⟩
theorem lF {p q:Prop} (k:q) (h:iG q->p:=by intro hq;(iterate 20 refine iX ?_);exact hq.h):p:=h ⟨k⟩
theorem sE {p q:Prop} (k:q) (h:iG q->p:=by intro hq;(iterate 21 refine iX ?_);exact hq.h):p:=h ⟨k⟩
theorem aop {p q:Prop} (k:q) (h:iG q->p:=by intro hq;(iterate 22 refine iX ?_);exact hq.h):p:=h ⟨k⟩
theorem aaJ {p q:Prop} (k:q) (h:iG q->p:=by intro hq;(iterate 23 refine iX ?_);exact hq.h):p:=h ⟨k⟩
theorem yE {p q:Prop} (k:q) (h:iG q->p:=by intro hq;(iterate 24 refine iX ?_);exact hq.h):p:=h ⟨k⟩
theorem uS {p q:Prop} (k:q) (h:iG q->p:=by intro hq;(iterate 25 refine iX ?_);exact hq.h):p:=h ⟨k⟩
theorem ao4 {p q:Prop} (k:q) (h:iG q->p:=by intro hq;(iterate 26 refine iX ?_);exact hq.h):p:=h ⟨k⟩
theorem ak9 {p q:Prop} (k:q) (h:iG q->p:=by intro hq;(iterate 27 refine iX ?_);exact hq.h):p:=h ⟨k⟩
theorem amO {p q:Prop} (k:q) (h:iG q->p:=by intro hq;(iterate 28 refine iX ?_);exact hq.h):p:=h ⟨k⟩
theorem ano {p q:Prop} (k:q) (h:iG q->p:=by intro hq;(iterate 31 refine iX ?_);exact hq.h):p:=h ⟨k⟩
theorem ayr {p q:Prop} (k:q) (h:iG q->p:=by intro hq;(iterate 33 refine iX ?_);exact hq.h):p:=h ⟨k⟩
theorem aup {p q:Prop} (k:q) (h:iG q->p:=by intro hq;(iterate 34 refine iX ?_);exact hq.h):p:=h ⟨k⟩
theorem aJZ {p q:Prop} (k:q) (h:iG q->p:=by intro hq;(iterate 49 refine iX ?_);exact hq.h):p:=h ⟨k⟩
theorem aDV {p q:Prop} (k:q) (h:iG q->p:=by intro hq;(iterate 54 refine iX ?_);exact hq.h):p:=h ⟨k⟩
theorem aFJ {p q:Prop} (k:q) (h:iG q->p:=by intro hq;(iterate 57 refine iX ?_);exact hq.h):p:=h ⟨k⟩
end Go.Lg
end
