/- Texts LgY, LgR, LgG of this proof, joined. -/
import Derived.Test.YtlipjipfpkbppaaGreatQV2
import Derived.Laws.Cover3
set_option linter.unusedVariables false
set_option linter.unusedSimpArgs false
open And renaming intro->aF
open BitVec renaming ofInt->kD,toNat_ofNat->pR,toNat_or->aaj
open Classical renaming byContradiction->im
open Int renaming ediv_nonneg->acq,fdiv_eq_ediv_of_nonneg->zr,natCast_dvd_natCast->aas,neg_mul->xy
open List renaming append_nil->aS,drop_eq_getElem_cons->o8,drop_of_length_le->ep,drop_zero->dY,foldl->lM,getD_eq_getElem?_getD->ao,getElem?_eq_getElem->aB,getElem?_eq_none->px,getElem?_set_self->acW,getLast_cons->abE,getLast_eq_getElem->abq,length_cons->aQ,length_map->aA,length_nil->bc,length_take->bZ,map->jt,map_nil->bh,map_take->lY,mem_cons->bp,nil_append->aR,not_mem_nil->cN,replicate->ai,set->lZ,set_cons_succ->aK,set_cons_zero->aN,take_length->eZ,take_nil->aZ,take_of_length_le->aH,take_succ_eq_append_getElem->tc
open List.cons renaming injEq->b7
open Nat renaming add_comm->dM,add_mul->cI,add_right_comm->zK,add_sub_cancel->df,add_zero->iH,beq->iS,beq_eq->te,div_add_mod->n7,div_eq_of_lt->qm,div_le_self->lr,div_lt_iff_lt_mul->fP,eq_zero_or_pos->nu,gcd_comm->iJ,gcd_dvd_left->qh,le_div_iff_mul_le->nO,le_max_left->acM,le_max_right->aar,le_of_eq->tM,le_of_lt->lE,le_refl->an,le_sub_one_of_lt->ac9,le_trans->aw,lt_of_le_of_lt->jW,lt_of_lt_of_le->rI,lt_of_mul_lt_mul_right->ad5,lt_trans->aba,min_eq_left->eP,mod_eq_of_lt->cV,mod_self->adY,mul_add->bm,mul_add_div->ad1,mul_assoc->bW,mul_comm->bz,mul_le_mul->cx,mul_le_mul_left->fx,mul_le_mul_right->bw,mul_left_comm->sF,mul_lt_mul_of_pos_right->zt,mul_mod_mul_right->ac2,mul_pos->eN,mul_right_comm->aes,mul_zero->oR,not_lt->aaH,one_mul->vh,or_comm->aca,pos_of_ne_zero->ll,pow_add->fh,pow_le_pow_right->gg,pow_pos->dU,pow_succ->dz,reduceAdd->au,reduceBEq->aq,reduceEqDiff->aO,reduceMul->ar,shiftLeft_add_eq_or_of_lt->zN,shiftLeft_eq->aab,strongRecOn->sT,zero_add->cJ
open Option renaming getD_some->iY
open Rat renaming div_def->cj,mkRat_add_mkRat->zX,mkRat_self->acX,neg_mkRat->abf,not_le->aef,num_mkRat->adE,num_nonneg->adn
section
set_option linter.unusedVariables false
set_option linter.unusedSimpArgs false
namespace Go.Lg
def val:List Nat->Nat
 | []=>0
 | x :: xs=>x+4294967296*val xs
def Lim (l:List Nat):Prop:=∀ x∈l,x<4294967296
def digF:Nat->Nat->List Nat
 | 0,_=>[]
 | k+1,n=>if n=0 then [] else n % 4294967296 :: digF k (n/4294967296)
def dig (n:Nat):List Nat:=digF n n
theorem digF_zero:∀ k,digF k 0=[]
 | 0=>rfl
 | k+1=>by simp [digF]
theorem digF_fuel:∀ (k j n:Nat),n<=k->n<=j->digF k n=digF j n
 | 0,j,n,h,_=>by
   have:n=0:=J;subst this;rw [digF_zero,digF_zero]
 | k+1,0,n,_,h=>by
   have:n=0:=J;subst this;rw [digF_zero,digF_zero]
 | k+1,j+1,n,h1,h2=>by
   simp only [digF];split
   ·rfl
   rw [digF_fuel k j (n/4294967296) J J]
theorem dig_zero:dig 0=[]:=rfl
theorem dig_pos {n:Nat} (h:0<n):dig n=n % 4294967296 :: dig (n/4294967296):=by
 unfold dig;obtain⟨k,rfl⟩:∃ k,n=k+1:=⟨n-1,J⟩;rw [digF,if_neg J,digF_fuel k ((k+1)/4294967296) _ J (an _)]
theorem val_dig (n:Nat):val (dig n)=n:=by
 induction n using sT with
 | _ n ih =>
  by_cases h:n=0
  ·subst h;rfl
  rw [dig_pos J,val,ih (n/4294967296) J];omega
theorem lim_dig (n:Nat):Lim (dig n):=by
 induction n using sT with
 | _ n ih =>
  by_cases h:n=0
  ·subst h;intro x hx;cases hx
  rw [dig_pos J];intro x hx;rcases bp.1 hx with rfl | hx
  ·omega
  exact ih _ J x hx
def Can (l:List Nat):Prop:=∀ h:l≠[],l.getLast h≠0
theorem can_dig (n:Nat):Can (dig n):=by
 induction n using sT with
 | _ n ih =>
  by_cases h:n=0
  ·subst h;intro h;exact absurd rfl h
  rw [dig_pos J];intro ak;by_cases h2:n/4294967296=0
  ·have e:dig (n/4294967296)=[]:=by rw [h2];rfl
   simp only [e,List.getLast_singleton];omega
  have acv:dig (n/4294967296)≠[]:=by rw [dig_pos J];simp
  rw [abE acv];exact ih _ J acv
theorem can_tail {x:Nat} {xs:List Nat} (h:Can (x :: xs)):Can xs:=fun ak=>by
 have:=h (List.cons_ne_nil _ _);rwa [abE ak] at this
theorem val_pos:∀ {l:List Nat},Can l->l≠[]->0<val l
 | [],_,h=>absurd rfl h
 | [x],h,_=>by have:=h aj;simp at this;simp [val];omega
 | x :: y :: l,h,_=>by
   have:=val_pos (can_tail h) aj;simp only [val] at this ⊢;omega
theorem dig_val:∀ {l:List Nat},Lim l->Can l->dig (val l)=l
 | [],_,_=>rfl
 | x :: xs,h1,h2=>by
   have hp:=val_pos h2 aj;have hx:=h1 x aj;have ih:=dig_val (l:=xs) (fun y hy=>h1 y (by simp [hy])) (can_tail h2);rw [dig_pos hp];have e1:val (x :: xs) % 4294967296=x:=by simp only [val];omega
   have e2:val (x :: xs)/4294967296=val xs:=by simp only [val];omega
   rw [e1,e2,ih]
theorem val_lt:∀ {l:List Nat},Lim l->val l<4294967296 ^ l.length
 | [],_=>by simp [val]
 | x :: xs,h=>by
   have ih:=val_lt (l:=xs) (fun y hy=>h y (by simp [hy]));have hx:=h x aj;simp only [val,aQ,dz];have:val xs+1<=4294967296 ^ xs.length:=ih;have:=bw 4294967296 this;omega
theorem val_append:∀ (l m:List Nat),val (l++m)=val l+4294967296 ^ l.length*val m
 | [],m=>by simp [val]
 | x :: xs,m=>by
   simp only [List.cons_append,val,val_append xs m,aQ,dz];rw [bm,<-bW,bz 4294967296 (4294967296 ^ xs.length)];omega
theorem val_zeros:∀ k,val (ai k 0)=0
 | 0=>rfl
 | k+1=>by simp [List.replicate_succ,val,val_zeros k]
theorem dig_length_le {n k:Nat} (h:n<4294967296 ^ k):(dig n).length<=k:=by
 induction k generalizing n with
 | zero =>
      have:n=0:=dX;subst this;simp [dig_zero]
 | succ k ih =>
  by_cases h0:n=0
  ·subst h0;simp [dig_zero]
  rw [dig_pos J,aQ];have:=ih (n:=n/4294967296) (by rw [fP J];rwa [<-dz]);omega
theorem dig_length_ge {n k:Nat} (h:(dig n).length<=k):n<4294967296 ^ k:=by
 have h1:=val_lt (lim_dig n);rw [val_dig] at h1;exact rI h1 (gg J h)
theorem dig_length_lt_iff {n k:Nat}:(dig n).length<=k↔n<4294967296 ^ k:=⟨dig_length_ge,dig_length_le⟩
theorem dig_eq_nil {n:Nat}:dig n=[]↔n=0:=by
 constructor
 ·intro h;have:=val_dig n;rw [h] at this;exact this.symm
 rintro rfl;rfl
theorem lim_append {l m:List Nat} (h1:Lim l) (h2:Lim m):Lim (l++m):=fun x hx=>by
 rcases List.mem_append.1 hx with h | h
 ·exact h1 x h
 exact h2 x h
theorem lim_take {l:List Nat} (h:Lim l) (k:Nat):Lim (l.take k):=fun x hx=>h x (List.mem_of_mem_take hx)
theorem lim_drop {l:List Nat} (h:Lim l) (k:Nat):Lim (l.drop k):=fun x hx=>h x (List.mem_of_mem_drop hx)
theorem lim_zeros (k:Nat):Lim (ai k 0):=fun x hx=>by rw [(List.mem_replicate.1 hx).2];omega
theorem lim_getD {l:List Nat} (h:Lim l) (k:Nat):l.getD k 0<4294967296:=by
 rw [ao]
 cases hq:l[k]? with
 | none=>simp
 | some x=>simpa using h x (List.mem_of_getElem? hq)
theorem val_take_succ {l:List Nat} {k:Nat} (h:k<l.length):val (l.take (k+1))=val (l.take k)+4294967296 ^ k*l.getD k 0:=by
 rw [tc h,val_append,bZ,eP J,ao,aB h];simp [val]
def trimN:Nat->List Nat->Nat
 | 0,_=>0
 | n+1,l=>if l.getD n 0=0 then trimN n l else n+1
theorem trimN_le:∀ (n:Nat) (l:List Nat),trimN n l<=n
 | 0,_=>by simp [trimN]
 | n+1,l=>by simp only [trimN];split;have:=trimN_le n l;omega;omega
theorem trimN_spec:∀ (n:Nat) (l:List Nat),n<=l.length->Can (l.take (trimN n l))/\val (l.take (trimN n l))=val (l.take n)
 | 0,l,_=>by simp [trimN,Can]
 | n+1,l,h=>by
   simp only [trimN];split
   ·rename_i h0;have ih:=trimN_spec n l J;refine⟨ih.1,ih.2.trans ?_⟩;rw [val_take_succ J,h0];simp
   rename_i h0;refine⟨fun ak=>?_,rfl⟩;rw [abq];simp only [bZ,eP h,df,List.getElem_take];rw [ao,aB J] at h0;exact h0
def trimL (l:List Nat):List Nat:=l.take (trimN l.length l)
theorem trimL_dig {l:List Nat} (h:Lim l):trimL l=dig (val l):=by
 have:=trimN_spec l.length l (an _);rw [eZ] at this;rw [<-this.2];exact(dig_val (lim_take h _) this.1).symm
def u32L (n:Nat):LV:=.v (.int .u32 n)
def i64L (n:Int):LV:=.v (.int .i64 n)
theorem u32E:EncOK u32L 1 false:=⟨fun _=>rfl,fun _=>rfl,fun _=>rfl⟩
theorem i64E:EncOK i64L 1 false:=⟨fun _=>rfl,fun _=>rfl,fun _=>rfl⟩
def limL (l:List Nat):LV:=.list 1 (l.map u32L)
def magL (n:Nat):LV:=.list 1 ((dig n).map u32L)
theorem magL_pure (n:Nat):(magL n).pure=true:=by simp only [magL,LV.pure];exact pures_map u32E _
def denN (q:Rat):Nat:=if q.den=1 then 0 else q.den
@[irreducible] def ratL (q:Rat):LV:=.agg [.v (.bool (decide (q<0))),magL q.num.natAbs,magL (denN q)]
theorem ratL_eq (q:Rat):ratL q=.agg [.v (.bool (decide (q<0))),magL q.num.natAbs,magL (denN q)]:=by unfold ratL;rfl
theorem ratE:EncOK ratL 3 true:=by
 refine⟨fun q=>?_,fun q=>?_,fun q=>?_⟩
 ·rw [ratL_eq];rfl
 ·rw [ratL_eq];rfl
 rw [ratL_eq];simp [LV.pure,pures,magL_pure]
theorem ratL_neg (q:Rat):(ratL q).at 0 1 false=some (.v (.bool (decide (q<0)))):=by rw [ratL_eq];rfl
theorem ratL_num (q:Rat):(ratL q).at 1 1 false=some (magL q.num.natAbs):=by rw [ratL_eq];rfl
theorem ratL_den (q:Rat):(ratL q).at 2 1 false=some (magL (denN q)):=by rw [ratL_eq];rfl
theorem ratL_all (q:Rat):(ratL q).at 0 3 true=some (ratL q):=by
 have:=at_self (ratL q) (ratE.pure q);rwa [ratE.csize,ratE.isAgg] at this
theorem ratL_zero:ratL 0=.agg [.v (.bool false),.list 1 [],.list 1 []]:=by rw [ratL_eq];rfl
@[irreducible] def spL (s:Rat × Rat):LV:=.agg [ratL s.1,ratL s.2]
theorem spL_eq (s:Rat × Rat):spL s=.agg [ratL s.1,ratL s.2]:=by unfold spL;rfl
theorem spE:EncOK spL 6 true:=by
 refine⟨fun s=>?_,fun s=>?_,fun s=>?_⟩<;>rw [spL_eq]<;>simp [LV.csize,csizes,LV.isAgg,LV.pure,pures,ratE.csize,ratE.pure]
theorem spL_all (s:Rat × Rat):(spL s).at 0 6 true=some (spL s):=by
 have:=at_self (spL s) (spE.pure s);rwa [spE.csize,spE.isAgg] at this
theorem spL_lo (s:Rat × Rat):(spL s).at 0 3 true=some (ratL s.1):=by
 rw [spL_eq];simp [LV.at,atFs,csizes,ratE.csize,ratL_all]
theorem spL_hi (s:Rat × Rat):(spL s).at 3 3 true=some (ratL s.2):=by
 rw [spL_eq];simp [LV.at,atFs,csizes,ratE.csize,ratL_all]
theorem ratL_kill (q:Rat) (b:Nat):(ratL q).kill b=ratL q:=LV.kill_pure b _ (ratE.pure q)
theorem kills_map {α:Type} {e:α->LV} {sz:Nat} {ag:Bool} (h:EncOK e sz ag) (b:Nat) (l:List α):kills b (l.map e)=l.map e:=kills_pure b _ (pures_map h l)
theorem spL_kill (q:Rat × Rat) (b:Nat):(spL q).kill b=spL q:=LV.kill_pure b _ (spE.pure q)
section
variable {Z:Nat->Prop} {μ:Nat->Option Nat} {w:World}
theorem repV0 {x:Value} (h:x.oneCell'=true):Rep Z μ w (.v x) [x]:=by simp only [Rep];exact⟨trivial,h⟩
theorem repNil0 (sz:Nat):Rep Z μ w (.list sz []) [.slice none 0 0]:=by simp only [Rep];exact⟨none,0,0,rfl,rfl,an _,.inl trivial,rfl⟩
theorem repAgg0 {l:List LV} {cs:List Value} (h:RepFs Z μ w l cs):Rep Z μ w (.agg l) cs:=by simp only [Rep];exact h
theorem repFs0:RepFs Z μ w [] []:=by simp only [RepFs]
theorem repFs1 {x:LV} {xs:List LV} {c1 c2:List Value} (h1:c1.length=x.csize) (h2:Rep Z μ w x c1) (h3:RepFs Z μ w xs c2):RepFs Z μ w (x :: xs) (c1++c2):=by
 simp only [RepFs];exact⟨c1,c2,rfl,h1,h2,h3⟩
end
end Go.Lg
namespace Go.Lg
abbrev nU64 (n:Nat):LV:=.v (.int .u64 ((n:Nat):Int))
abbrev nU32 (n:Nat):LV:=.v (.int .u32 ((n:Nat):Int))
abbrev nI64 (n:Nat):LV:=.v (.int .i64 ((n:Nat):Int))
abbrev bL (b:Bool):LV:=.v (.bool b)
abbrev iL (n:Int):LV:=.v (.int .i64 n)
section
variable {a b:Nat}
theorem addU (h:a+b<18446744073709551616):binI .add .u64 (a:Nat) (b:Nat)=some (.int .u64 ((a+b:Nat):Int)):=by
 simp only [binI];rw [IntWalk.u64_in _ J];simp
theorem mulU (h:a*b<18446744073709551616):binI .mul .u64 (a:Nat) (b:Nat)=some (.int .u64 ((a*b:Nat):Int)):=by
 simp only [binI];have e:((a:Int)*(b:Int))=((a*b:Nat):Int):=aj;rw [e,IntWalk.u64_in _ J]
theorem subU (h:b<=a) (h1:a<18446744073709551616):binI .sub .u64 (a:Nat) (b:Nat)=some (.int .u64 ((a-b:Nat):Int)):=by
 simp only [binI];rw [IntWalk.u64_in _ J];congr 2;omega
theorem subW (h:b<=18446744073709551616):binI .sub .u64 (a:Nat) (b:Nat)=some (.int .u64 (((18446744073709551616+a-b) % 18446744073709551616:Nat):Int)):=by
 simp only [binI];rw [IntKind.wrap_u64];congr 2;omega
theorem quoU (h:0<b) (h1:a<18446744073709551616):binI .quo .u64 (a:Nat) (b:Nat)=some (.int .u64 ((a/b:Nat):Int)):=by
 have e:((a:Int).tdiv (b:Int))=((a/b:Nat):Int):=aj;have h2:a/b<=a:=lr a b;simp only [binI];rw [if_neg J,e,IntWalk.u64_in _ ⟨Int.natCast_nonneg _,J⟩]
theorem remU (h:0<b):binI .rem .u64 (a:Nat) (b:Nat)=some (.int .u64 ((a % b:Nat):Int)):=by
 simp only [binI];rw [if_neg J];congr 2
theorem shl32 (h:a*4294967296<18446744073709551616):shI .shl .u64 (a:Nat) 32=some (.int .u64 ((a*4294967296:Nat):Int)):=by
 have e:(2:Int) ^ min (32:Int).toNat IntKind.u64.bits=4294967296:=ae;simp only [shI];rw [if_neg J,e,IntWalk.u64_in _ J];simp
theorem shr32:shI .shr .u64 (a:Nat) 32=some (.int .u64 ((a/4294967296:Nat):Int)):=by
 have e:(2:Int) ^ min (32:Int).toNat IntKind.u64.bits=4294967296:=ae;simp only [shI];rw [if_neg J,e,zr _ J];congr 2
theorem shr63:shI .shr .u64 (a:Nat) 63=some (.int .u64 ((a/9223372036854775808:Nat):Int)):=by
 have e:(2:Int) ^ min (63:Int).toNat IntKind.u64.bits=9223372036854775808:=ae;simp only [shI];rw [if_neg J,e,zr _ J];congr 2
theorem bv_nat (n w:Nat):(kD w (n:Int))=BitVec.ofNat w n:=aj
theorem orU {x:Nat} (hb:b<4294967296) (hx:x<4294967296):binI .or .u64 ((x*4294967296:Nat):Int) (b:Nat)=some (.int .u64 ((x*4294967296+b:Nat):Int)):=by
 have e:(kD IntKind.u64.bits ((x*4294967296:Nat):Int) ||| kD IntKind.u64.bits (b:Int)).toNat=x*4294967296+b:=by
  rw [bv_nat,bv_nat,aaj,pR,pR];have e1:x*4294967296 % 2 ^ IntKind.u64.bits=x*4294967296:=cV (by show _<18446744073709551616;omega);have e2:b % 2 ^ IntKind.u64.bits=b:=cV (by show _<18446744073709551616;omega);rw [e1,e2];have:=zN (i:=32) (b:=b) (by simpa using hb) x;rw [aab] at this;exact this.symm
 simp only [binI,e];rw [IntWalk.u64_in _ J]
theorem wrap32:IntKind.u32.wrap (a:Nat)=((a % 4294967296:Nat):Int):=by rw [IntKind.wrap_u32];omega
theorem wrap64 (h:a<18446744073709551616):IntKind.u64.wrap (a:Nat)=(a:Int):=IntWalk.u64_in _ J
theorem mulLt {x y:Nat} (hx:x<4294967296) (hy:y<4294967296):x*y<=18446744065119617025:=by
 have:=cx (ac9 hx) (ac9 hy);simpa using this
end
section
variable {P:Program} {H:Heap} {ρ:Operand->LV} {S D:TypeId} {x:Operand} {n:Nat} {k':IntKind}
theorem OpP.lenLm {α:Type} {e:α->LV} {sz:Nat} {l:List α} {T:TypeId} {d:TypeId} {as:Array TypeId} (hx:ρ x=.list sz (l.map e)) (has:as=#[T]) (hT:P.underlying T=some (.slice d)) :
  OpP P H ρ (.call ⟨.builtin .len,#[x],as⟩) (nI64 l.length):=by
 have:=OpP.lenL (H:=H) hx has hT;rwa [aA] at this
theorem OpP.cv32 {d:TypeDesc} (hS:P.underlying S=some d) (hD:P.underlying D=some (.int .u32)) (hx:ρ x=.v (.int k' (n:Nat))):OpP P H ρ (.convert S D x) (nU32 (n % 4294967296)):=by
 have:=OpP.conv (H:=H) hS hD hx
 rwa [wrap32] at this
theorem OpP.cv64 {d:TypeDesc} (hS:P.underlying S=some d) (hD:P.underlying D=some (.int .u64)) (hx:ρ x=.v (.int k' (n:Nat))) (h:n<18446744073709551616):OpP P H ρ (.convert S D x) (nU64 n):=by
 have:=OpP.conv (H:=H) hS hD hx
 rwa [wrap64 h] at this
theorem OpP.cvI {d:TypeDesc} {m:Int} (hS:P.underlying S=some d) (hD:P.underlying D=some (.int .i64)) (hx:ρ x=.v (.int k' m)) (h1:-9223372036854775808<=m) (h2:m<=9223372036854775807):OpP P H ρ (.convert S D x) (iL m):=by
 have:=OpP.conv (H:=H) hS hD hx
 rwa [IntWalk.i64_in _ ⟨h1,h2⟩] at this
end
section
variable {P:Program} {Q:LEx->St->Prop} {L L0:St} {K:St->Prop} {dr:Bool} {ops:Array Oper} {l:List Oper}
theorem opsL_split {d:Nat} {b:Bool} (h:L.slot d=.v (.bool b)) (ht:b=true->opsL P dr ops l L K) (hf:b=false->opsL P dr ops l L K):opsL P dr ops l L K:=by
 cases b with
 | true=>exact ht rfl
 | false=>exact hf rfl
theorem wl_condX {c:Operand} {x y:Code} {b:Bool} (hc:L.ev c=.v (.bool b)) (hb:b=true) (h:wpL P x Q L):wpL P (.cond c x y) Q L:=wl_cond hc (fun _=>h) (fun e=>by rw [hb] at e;cases e)
theorem wl_condY {c:Operand} {x y:Code} {b:Bool} (hc:L.ev c=.v (.bool b)) (hb:b=false) (h:wpL P y Q L):wpL P (.cond c x y) Q L:=wl_cond hc (fun e=>by rw [hb] at e;cases e) (fun _=>h)
end
theorem Weak.own {L:St} {t:Nat} (d sz:Nat) (h:L.slot t=.v (.slice none 0 0)) (hd:L.heap d=none):Weak L ((L.setB d (some ⟨sz,[],true⟩)).put (some t) (.ref d sz 0 0)):=by
 rintro n W X Z0 a w ⟨bj,hsz,μ,Z,hc,hr⟩;refine⟨bj,hsz,μ,Z,?_,fun s=>?_⟩
 ·rw [put_heap];refine hc.reheap fun c id pO=>?_;have:c≠d:=by rintro rfl;rw [mu_none hc hd] at pO;cases pO
  simp [St.setB,this]
 rw [put_slot];split
 ·rename_i ba;subst ba;have e:=hr s;rw [h] at e;rw [e.v_eq];exact⟨by simp [LV.isAgg],fun _=>by simp [Rep]⟩
 exact hr s
theorem Weak.any (L:St) (t:Nat):Weak L (L.put (some t) .any):=by
 rintro n W X Z0 a w ⟨bj,hsz,μ,Z,hc,hr⟩;refine⟨bj,hsz,μ,Z,by rw [put_heap];exact hc,fun s=>?_⟩;rw [put_slot];split
 ·trivial
 exact hr s
def hp:List (Nat × Blk)->Heap
 | [],_=>none
 | (b,x) :: l,c=>bif iS c b then some x else hp l c
def ins (b:Nat) (x:Blk):List (Nat × Blk)->List (Nat × Blk)
 | []=>[(b,x)]
 | (c,y) :: l=>bif iS c b then(b,x) :: l else(c,y) :: ins b x l
def killH (b:Nat):List (Nat × Blk)->List (Nat × Blk)
 | []=>[]
 | (c,y) :: l=>bif iS c b then killH b l else(c,⟨y.sz,kills b y.vals,y.mt⟩) :: killH b l
def frzH (bs:List Nat):List (Nat × Blk)->List (Nat × Blk)
 | []=>[]
 | (c,y) :: l=>(c,⟨y.sz,y.vals,y.mt && !bs.contains c⟩) :: frzH bs l
theorem beq_eq {a b:Nat} (h:iS a b=true):a=b:=Nat.eq_of_beq_eq_true h
theorem beq_self (a:Nat):iS a a=true:=by rw [te]
theorem beq_ne {a b:Nat} (h:a≠b):iS a b=false:=by rw [<-Bool.not_eq_true,te];exact h
theorem hp_ins (b:Nat) (x:Blk):∀ (l:List (Nat × Blk)) (c:Nat),hp (ins b x l) c=if c=b then some x else hp l c
 | [],c=>by
   simp only [ins,hp];by_cases h:c=b
   ·subst h;rw [beq_self];simp
   rw [beq_ne h,if_neg h];rfl
 | (d,y) :: l,c=>by
   simp only [ins];by_cases jc:d=b
   ·subst jc;rw [beq_self];simp only [cond_true,hp];by_cases h:c=d
    ·subst h;rw [beq_self];simp
    rw [beq_ne h,if_neg h];rfl
   rw [beq_ne jc];simp only [cond_false,hp,hp_ins b x l c];by_cases h:c=d
   ·subst h;rw [beq_self];simp [jc]
   rw [beq_ne h];rfl
theorem hp_kill (b:Nat):∀ (l:List (Nat × Blk)) (c:Nat),hp (killH b l) c=if c=b then none else(hp l c).map fun blk=>⟨blk.sz,kills b blk.vals,blk.mt⟩
 | [],c=>by simp [killH,hp]
 | (d,y) :: l,c=>by
   simp only [killH];by_cases jc:d=b
   ·subst jc;rw [beq_self];simp only [cond_true,hp_kill d l c,hp];by_cases h:c=d
    ·rw [if_pos h,if_pos h]
    rw [if_neg h,if_neg h,beq_ne h];rfl
   rw [beq_ne jc];simp only [cond_false,hp,hp_kill b l c];by_cases h:c=d
   ·subst h;rw [beq_self];simp [jc]
   rw [beq_ne h];rfl
theorem hp_frz (bs:List Nat):∀ (l:List (Nat × Blk)) (c:Nat),hp (frzH bs l) c=(hp l c).map fun blk=>⟨blk.sz,blk.vals,blk.mt && !bs.contains c⟩
 | [],c=>rfl
 | (d,y) :: l,c=>by
   simp only [frzH,hp,hp_frz bs l c];by_cases h:c=d
   ·subst h;rw [beq_self];rfl
   rw [beq_ne h];rfl
theorem b1 (s:Nat->LV) (l:List (Nat × Blk)) (b:Nat) (x:Blk):(St.mk s (hp l)).setB b (some x)=St.mk s (hp (ins b x l)):=by
 simp only [St.setB,St.mk.injEq,true_and];funext c;rw [hp_ins]
theorem b2 (L:St) (t:Nat) (r:LV) (b:Nat) (x:Option Blk):(L.put (some t) r).setB b x=(L.setB b x).put (some t) r:=rfl
theorem b3 (s:Nat->LV) (l:List (Nat × Blk)) (b:Nat):(St.mk s (hp l)).kill b=St.mk (fun t=>(s t).kill b) (hp (killH b l)):=by
 simp only [St.kill,St.mk.injEq,true_and];funext c;rw [hp_kill]
theorem b4 (L:St) (t:Nat) (r:LV) (b:Nat):(L.put (some t) r).kill b=(L.kill b).put (some t) (r.kill b):=by
 simp only [St.kill,St.put,St.mk.injEq,and_true];funext s
 cases iS s t<;>rfl
theorem b5 (s:Nat->LV) (l:List (Nat × Blk)) (bs:List Nat):(St.mk s (hp l)).frz bs=St.mk s (hp (frzH bs l)):=by
 simp only [St.frz,St.mk.injEq,true_and];funext c;rw [hp_frz]
theorem b6 (L:St) (t:Nat) (r:LV) (bs:List Nat):(L.put (some t) r).frz bs=(L.frz bs).put (some t) r:=rfl
theorem i1 (b:Nat) (x:Blk):ins b x []=[(b,x)]:=rfl
theorem i2 (b c:Nat) (x y:Blk) (l:List (Nat × Blk)) (h:(c==b)=true):ins b x ((c,y) :: l)=(b,x) :: l:=by
 simp only [beq_iff_eq] at h;simp only [ins,h,beq_self,cond_true]
theorem i3 (b c:Nat) (x y:Blk) (l:List (Nat × Blk)) (h:(c==b)=false):ins b x ((c,y) :: l)=(c,y) :: ins b x l:=by
 have h':c≠b:=dX;simp only [ins,beq_ne h',cond_false]
theorem i4 (b:Nat):killH b []=[]:=rfl
theorem i5 (b c:Nat) (y:Blk) (l:List (Nat × Blk)) (h:(c==b)=true):killH b ((c,y) :: l)=killH b l:=by
 simp only [beq_iff_eq] at h;simp only [killH,h,beq_self,cond_true]
theorem i6 (b c:Nat) (y:Blk) (l:List (Nat × Blk)) (h:(c==b)=false):killH b ((c,y) :: l)=(c,⟨y.sz,kills b y.vals,y.mt⟩) :: killH b l:=by
 have h':c≠b:=dX;simp only [killH,beq_ne h',cond_false]
theorem mk_id' {L:St} {l:List (Nat × Blk)} (h:L.heap=hp l):St.mk L.slot (hp l)=L:=by rw [<-h]
def delH (b:Nat):List (Nat × Blk)->List (Nat × Blk)
 | []=>[]
 | (c,y) :: l=>bif iS c b then delH b l else(c,y) :: delH b l
theorem hp_del (b:Nat):∀ (l:List (Nat × Blk)) (c:Nat),hp (delH b l) c=if c=b then none else hp l c
 | [],c=>by simp [delH,hp]
 | (d,y) :: l,c=>by
   simp only [delH];by_cases jc:d=b
   ·subst jc;rw [beq_self];simp only [cond_true,hp_del d l c,hp];by_cases h:c=d
    ·rw [if_pos h,if_pos h]
    rw [if_neg h,if_neg h,beq_ne h];rfl
   rw [beq_ne jc];simp only [cond_false,hp,hp_del b l c];by_cases h:c=d
   ·subst h;rw [beq_self];simp [jc]
   rw [beq_ne h];rfl
theorem bh7 (s:Nat->LV) (l:List (Nat × Blk)) (b:Nat):(St.mk s (hp l)).setB b none=St.mk s (hp (delH b l)):=by
 show St.mk s _=_;congr 1;funext c;exact(hp_del b l c).symm
theorem dh1 (b:Nat):delH b []=[]:=rfl
theorem dh2 (b c:Nat) (y:Blk) (l:List (Nat × Blk)) (h:(c==b)=true):delH b ((c,y) :: l)=delH b l:=by
 have:c=b:=dX;subst this;simp only [delH,beq_self,cond_true]
theorem dh3 (b c:Nat) (y:Blk) (l:List (Nat × Blk)) (h:(c==b)=false):delH b ((c,y) :: l)=(c,y) :: delH b l:=by
 have:c≠b:=dX;simp only [delH,beq_ne this,cond_false]
def CallP (P:Program) (f:FuncId) (args:List LV) (r:LV):Prop:=CallOK P f args r []/\∀ g,r.ren g=r
section
variable {P:Program} {dr:Bool} {ops:Array Oper} {rest:List Oper} {L:St} {K:St->Prop} {dst:Option Tmp} {ty:TypeId} {pos:String} {af:Array Edge} {g:Option (Nat × Bool)}
theorem st_callP {f:FuncId} {xs:Array Operand} {as:Array TypeId} {args:List LV} {r:LV} (hg:GuardIs ops L ⟨dst,.call ⟨.value (.func f),xs,as⟩,ty,pos,af,g⟩ true)
  (ha:ImmL L.heap (xs.toList.map L.ev) args) (hk:CallP P f args r) (k:opsL P dr ops rest (L.put dst r) K) :
  opsL P dr ops (⟨dst,.call ⟨.value (.func f),xs,as⟩,ty,pos,af,g⟩ :: rest) L K:=st_call0 hg ha hk.1 (hk.2 _) k
theorem st_callPf {f:FuncId} {xs:Array Operand} {as:Array TypeId} {args:List LV} {r:LV} (bs:List Nat) (hg:GuardIs ops L ⟨dst,.call ⟨.value (.func f),xs,as⟩,ty,pos,af,g⟩ true) (h0:bs.contains 0=false)
  (ha:ImmL (L.frz bs).heap (xs.toList.map L.ev) args) (hk:CallP P f args r) (k:opsL P dr ops rest ((L.frz bs).put dst r) K) :
  opsL P dr ops (⟨dst,.call ⟨.value (.func f),xs,as⟩,ty,pos,af,g⟩ :: rest) L K:=st_call bs hg h0 ha hk.1 (hk.2 _) k
theorem callP_of {f:FuncId} {fn:Func} {c:Code} {args:List LV} {r:LV} (cE:P.follows .mixedOrders=true) (hf:P.funcs[f]?=some fn) (hb:fn.body=some c)
  (hn:(fn.name== "runtime.NumGoroutine")=false) (hd:dstsOk fn.ntmps c=true) (hlen:args.length<=fn.ntmps) (ht:∀ g,r.ren g=r)
  (h:wpL P c (fun e L=>match e with | .exit _=>False | _=>RetL P fn.results.toList L r []) (St.mk (fun t=>args.getD t .any) (hp []))):CallP P f args r:=⟨callOK_of cE hf hb hn hd hlen h,ht⟩
end
theorem callO_of {P:Program} {f:FuncId} {fn:Func} {c:Code} {args:List LV} {r:LV} {bs:List Blk} (cE:P.follows .mixedOrders=true) (hf:P.funcs[f]?=some fn) (hb:fn.body=some c)
  (hn:(fn.name== "runtime.NumGoroutine")=false) (hd:dstsOk fn.ntmps c=true) (hlen:args.length<=fn.ntmps)
  (h:wpL P c (fun e L=>match e with | .exit _=>False | _=>RetL P fn.results.toList L r bs) (St.mk (fun t=>args.getD t .any) (hp []))):CallOK P f args r bs:=callOK_of cE hf hb hn hd hlen h
theorem callM_of {P:Program} {f:FuncId} {fn:Func} {c:Code} {args:List LV} {r:LV} {blk blk':Blk} (cE:P.follows .mixedOrders=true) (hf:P.funcs[f]?=some fn) (hb:fn.body=some c)
  (hn:(fn.name== "runtime.NumGoroutine")=false) (hd:dstsOk fn.ntmps c=true) (hlen:args.length<=fn.ntmps) (bE:blk.mt=true)
  (h:wpL P c (fun e L=>match e with | .exit _=>False | _=>RetM P fn.results.toList L r blk') (St.mk (fun t=>args.getD t .any) (hp [(0,blk)]))):CallOKM P f blk args r blk':=by
 refine callOKM_of cE hf hb hn hd hlen bE ?_;have:StM args blk=St.mk (fun t=>args.getD t .any) (hp [(0,blk)]):=by
  simp only [StM,St.mk.injEq,true_and];funext c;simp only [hp];by_cases hc:c=0
  ·subst hc;rfl
  rw [beq_ne hc,if_neg hc];rfl
 rw [this];exact h
theorem tame {x:LV} (h:x.pure=true):∀ g,x.ren g=x:=fun g=>LV.ren_pure g x h
theorem tame2 {x y:LV} (h:x.pure=true) (h':y.pure=true):∀ g,(LV.tup [x,y]).ren g=.tup [x,y]:=fun g=>by
 simp only [LV.ren,rens,LV.ren_pure g x h,LV.ren_pure g y h']
theorem tame3 {x y z:LV} (h:x.pure=true) (h':y.pure=true) (zZ:z.pure=true):∀ g,(LV.tup [x,y,z]).ren g=.tup [x,y,z]:=fun g=>by
 simp only [LV.ren,rens,LV.ren_pure g x h,LV.ren_pure g y h',LV.ren_pure g z zZ]
theorem limL_pure (l:List Nat):(limL l).pure=true:=pure_lst u32E 1 l
theorem t1 (n:Nat):((n:Nat):Int).toNat=n:=rfl
theorem imm_refT {L:St} {α:Type} {e:α->LV} {ag:Bool} {bs:List Nat} {b sz len:Nat} {l:List α} {m:Bool} (he:EncOK e sz ag) (hb:L.heap b=some ⟨sz,l.map e,m⟩) (kF:bs.contains b=true) (hl:len<=l.length) :
  Imm (L.frz bs).heap (.ref b sz 0 len) (.list sz ((l.take len).map e)):=by
 have:=imm_ref (L:=L) (bs:=bs) (off:=0) (len:=len) hb kF (pures_map he l) (by simp [hl]);rwa [dY,<-lY] at this
theorem retM1 {P:Program} {L:St} {t:Nat} {x y:LV} {blk:Blk} (h:L.slot t=x) (hi:ArgM L.heap 0 x y) (hb:L.heap 0=some blk) (hm:blk.mt=true) (hp:pures blk.vals=true):RetM P [.tmp t] L y blk :=
 ⟨[x],[y],L.heap,.cons h .nil,Heap.le_refl _,.cons hi .nil,hb,hm,hp,rfl⟩
theorem r1 (f:Nat->Nat) (b sz off len:Nat):(LV.ref b sz off len).ren f=.ref (f b) sz off len:=rfl
theorem r2 (f:Nat->Nat) (b sz i o:Nat):(LV.eptr b sz i o).ren f=.eptr (f b) sz i o:=rfl
theorem r3 (f:Nat->Nat) (x:Value):(LV.v x).ren f=.v x:=rfl
theorem r4 (d k:Nat):callName d k=1000000+d*16+k:=rfl
section
variable {P:Program} {H:Heap} {ρ:Operand->LV} {T E:TypeId} {x z:Operand} {b sz off len h:Nat} {k':IntKind} {ag:Bool}
theorem OpP.sliceRh (hx:ρ x=.ref b sz off len) (hT:P.underlying T=some (.slice E)) (hE:TyIs P E sz ag) (dg:ρ z=.v (.int k' (h:Nat))) (h2:h<=len) (h0:0<len) :
  OpP P H ρ (.slice T x none (some z) none) (.ref b sz off h):=by
 have:=OpP.sliceR (P:=P) (H:=H) (ρ:=ρ) (la:=none) (ha:=some z) (a:=0) (h:=h) hx hT hE (fun w hw=>by cases hw) (fun _=>rfl) (fun w hw=>by cases hw;exact⟨_,dg⟩) (fun h=>by cases h) J h2 h0;simpa using this
end
end Go.Lg
namespace Go.Lg
abbrev B32:Nat:=4294967296
theorem dflt:(default:Nat)=0:=rfl
theorem val_take_succ' (l:List Nat) (k:Nat):val (l.take (k+1))=val (l.take k)+4294967296 ^ k*l.getD k 0:=by
 by_cases h:k<l.length
 ·exact val_take_succ h
 have h1:l.take (k+1)=l:=aH J;have h2:l.take k=l:=aH J;have h3:l.getD k 0=0:=by rw [ao,px J];rfl
 rw [h1,h2,h3];simp
theorem val_take_all (l:List Nat) {k:Nat} (h:l.length<=k):val (l.take k)=val l:=by rw [aH h]
theorem take_set_ge (l:List Nat) (k j x:Nat) (h:k<=j):(l.set j x).take k=l.take k:=by rw [List.take_set_of_le h]
theorem val_set_take (l:List Nat) (k x:Nat) (h:k<l.length):val ((l.set k x).take (k+1))=val (l.take k)+4294967296 ^ k*x:=by
 rw [val_take_succ',take_set_ge _ _ _ _ (an k),ao,acW h];rfl
theorem lim_set {l:List Nat} (h:Lim l) (k x:Nat) (hx:x<4294967296):Lim (l.set k x):=fun y hy=>by
 rcases List.mem_or_eq_of_mem_set hy with hy | rfl
 ·exact h y hy
 exact hx
theorem getD_lim {l:List Nat} (h:Lim l) (k:Nat):l.getD k 0<4294967296:=lim_getD h k
theorem getD_set_self (l:List Nat) (k x:Nat) (h:k<l.length):(l.set k x).getD k 0=x:=by
 rw [ao,acW h];rfl
theorem getD_set_ne (l:List Nat) (k j x:Nat) (h:k≠j):(l.set k x).getD j 0=l.getD j 0:=by
 rw [ao,ao,List.getElem?_set_ne h]
theorem getD_ge (l:List Nat) (k:Nat) (h:l.length<=k):l.getD k 0=0:=by
 rw [ao,px h];rfl
theorem carry_step (p s:Nat):p*(s % 4294967296)+p*4294967296*(s/4294967296)=p*s:=by
 rw [bW,<-bm,Nat.mod_add_div]
theorem getD_dig_lt (n k:Nat):(dig n).getD k 0<4294967296:=getD_lim (lim_dig n) k
theorem len_dig_mono {m n:Nat} (h:m<=n):(dig m).length<=(dig n).length:=by
 apply dig_length_le;have:=val_lt (lim_dig n);rw [val_dig] at this;omega
theorem val_lt_len {l:List Nat} (h:Lim l) {k:Nat} (hk:l.length<=k):val l<4294967296 ^ k :=
 rI (val_lt h) (gg J hk)
theorem dig_one:dig 1=[1]:=rfl
theorem dig_small {n:Nat} (h0:0<n) (h:n<4294967296):dig n=[n]:=by
 rw [dig_pos h0,cV h,qm h];rfl
theorem dig_len_le1 {n:Nat}:(dig n).length<=1↔n<4294967296:=dig_length_lt_iff
theorem dig_len_le2 {n:Nat}:(dig n).length<=2↔n<18446744073709551616:=by
 rw [dig_length_lt_iff]
theorem val_two (x y:Nat):val [x,y]=x+4294967296*y:=by simp [val]
theorem can_getLast {l:List Nat} (h:Can l) (ak:0<l.length):l.getD (l.length-1) 0≠0:=by
 have h1:l≠[]:=by rintro rfl;simp at ak
 have:=h h1;rw [abq] at this;rw [ao,aB J];exact this
end Go.Lg
namespace Go.Lg
theorem val_drop {l:List Nat} {k:Nat} (h:k<l.length):val (l.drop k)=l.getD k 0+4294967296*val (l.drop (k+1)):=by
 rw [o8 h,val,ao,aB h];rfl
theorem drop_set_self {l:List Nat} {k x:Nat} (h:k<l.length):val ((l.set k x).drop k)=x+4294967296*val (l.drop (k+1)):=by
 rw [val_drop dX,getD_set_self _ _ _ h,List.drop_set_of_lt J]
theorem val_drop_lt {l:List Nat} (h:Lim l) {k j:Nat} (hk:l.length<=k+j):val (l.drop k)<4294967296 ^ j :=
 val_lt_len (lim_drop h k) al
theorem val_set {l:List Nat} {k x:Nat} (h:k<l.length):val (l.set k x)+4294967296 ^ k*l.getD k 0=val l+4294967296 ^ k*x:=by
 induction l generalizing k with
 | nil=>simp at h
 | cons a l ih =>
  cases k with
  | zero=>simp [val];omega
  | succ k =>
   have:=ih (k:=k) dX;simp only [aK,val,List.getD_cons_succ,dz];have e1:4294967296 ^ k*4294967296*l.getD k 0=4294967296*(4294967296 ^ k*l.getD k 0):=by rw [bz (4294967296 ^ k),bW]
   have e2:4294967296 ^ k*4294967296*x=4294967296*(4294967296 ^ k*x):=by rw [bz (4294967296 ^ k),bW]
   rw [e1,e2];omega
theorem val_split (l:List Nat) (k:Nat) (h:k<=l.length):val l=val (l.take k)+4294967296 ^ k*val (l.drop k):=by
 have:=val_append (l.take k) (l.drop k);rwa [List.take_append_drop,bZ,eP h] at this
def cmpN (m n:Nat):Int:=if m<n then -1 else if n<m then 1 else 0
theorem cmpN_lt {m n:Nat} (h:m<n):cmpN m n=-1:=by simp [cmpN,h]
theorem cmpN_gt {m n:Nat} (h:n<m):cmpN m n=1:=by simp [cmpN,h];omega
theorem cmpN_eq {m n:Nat} (h:m=n):cmpN m n=0:=by simp [cmpN,h]
theorem lt_of_len {m n:Nat} (h:(dig m).length<(dig n).length):m<n:=by
 have h1:=val_lt (lim_dig m);rw [val_dig] at h1;apply im;intro h2;have:=len_dig_mono (Nat.le_of_not_lt h2);omega
theorem val_lt_of_limb {a b:List Nat} (ha:Lim a) {k:Nat} (hk:k<a.length) (jb:k<b.length) (hd:a.drop (k+1)=b.drop (k+1)) (h:a.getD k 0<b.getD k 0):val a<val b:=by
 rw [val_split a k J,val_split b k J,val_drop hk,val_drop jb,hd];have h1:val (a.take k)<4294967296 ^ k:=val_lt_len (lim_take ha k) al;have h2:4294967296 ^ k*(a.getD k 0+1)<=4294967296 ^ k*b.getD k 0:=fx _ h;rw [bm,bm];rw [bm] at h2;omega
theorem drop_eq_of {a b:List Nat} {k:Nat} (hk:k<a.length) (jb:k<b.length) (hd:a.drop (k+1)=b.drop (k+1)) (h:a.getD k 0=b.getD k 0):a.drop k=b.drop k:=by
 rw [o8 hk,o8 jb,hd];rw [ao,aB hk,ao,aB jb] at h;simp only [iY] at h;rw [h]
theorem take_eq_of {a b:List Nat} {k:Nat} (hk:k<a.length) (jb:k<b.length) (hd:a.take k=b.take k) (h:a.getD k 0=b.getD k 0):a.take (k+1)=b.take (k+1):=by
 rw [tc hk,tc jb,hd];rw [ao,aB hk,ao,aB jb] at h;simp only [iY] at h;rw [h]
theorem add_inv {k c:Nat} {a b o:List Nat} (aP:k<o.length) (hv:val (o.take k)+4294967296 ^ k*c=val (a.take k)+val (b.take k)) {s:Nat} (hs:s=c+a.getD k 0+b.getD k 0) :
  val ((o.set k (s % 4294967296)).take (k+1))+4294967296 ^ (k+1)*(s/4294967296)=val (a.take (k+1))+val (b.take (k+1)):=by
 rw [val_set_take _ _ _ aP,val_take_succ' a,val_take_succ' b,dz];have h1:=carry_step (4294967296 ^ k) s;have h2:4294967296 ^ k*s=4294967296 ^ k*c+4294967296 ^ k*a.getD k 0+4294967296 ^ k*b.getD k 0:=by rw [hs,bm,bm]
 omega
theorem add_end {c:Nat} {a b o:List Nat} (hba:b.length<=a.length) (aP:o.length=a.length+1) (aC:Lim o) (hc:c<4294967296) (hv:val (o.take a.length)+4294967296 ^ a.length*c=val (a.take a.length)+val (b.take a.length)) :
  trimL (o.set a.length c)=dig (val a+val b):=by
 rw [trimL_dig (lim_set aC _ _ hc)];congr 1;have h1:=val_set_take o a.length c J;rw [aH al] at h1;rw [val_take_all a (an _),val_take_all b hba] at hv;omega
theorem sub_inv0 {k br:Nat} {a b o:List Nat} (aP:k<o.length) (hv:val (o.take k)+val (b.take k)=val (a.take k)+4294967296 ^ k*br) {y:Nat} (hy:y=br+b.getD k 0) (h:y<=a.getD k 0) :
  val ((o.set k (a.getD k 0-y)).take (k+1))+val (b.take (k+1))=val (a.take (k+1))+4294967296 ^ (k+1)*0:=by
 rw [val_set_take _ _ _ aP,val_take_succ' a,val_take_succ' b];have h2:4294967296 ^ k*a.getD k 0=4294967296 ^ k*(a.getD k 0-y)+4294967296 ^ k*br+4294967296 ^ k*b.getD k 0:=by
  rw [<-bm,<-bm];congr 1;omega
 omega
theorem sub_inv1 {k br:Nat} {a b o:List Nat} (aP:k<o.length) (hv:val (o.take k)+val (b.take k)=val (a.take k)+4294967296 ^ k*br) {y:Nat} (hy:y=br+b.getD k 0) (h:a.getD k 0<y) (xD:y<=4294967296) :
  val ((o.set k (4294967296+a.getD k 0-y)).take (k+1))+val (b.take (k+1))=val (a.take (k+1))+4294967296 ^ (k+1)*1:=by
 rw [val_set_take _ _ _ aP,val_take_succ' a,val_take_succ' b,dz];have h2:4294967296 ^ k*4294967296+4294967296 ^ k*a.getD k 0=4294967296 ^ k*(4294967296+a.getD k 0-y)+4294967296 ^ k*br+4294967296 ^ k*b.getD k 0:=by
  rw [<-bm,<-bm,<-bm];congr 1;omega
 omega
theorem sub_end {br:Nat} {a b o:List Nat} (cr:Lim a) (aC:Lim o) (aP:o.length=a.length) (gQ:b.length<=a.length) (hle:val b<=val a)
  (hv:val (o.take a.length)+val (b.take a.length)=val (a.take a.length)+4294967296 ^ a.length*br):trimL o=dig (val a-val b):=by
 rw [trimL_dig aC];congr 1;rw [val_take_all a (an _),val_take_all b gQ,val_take_all o J] at hv;have h1:=val_lt aC;rw [aP] at h1
 cases br with
 | zero=>omega
 | succ n =>
  rw [Nat.mul_succ] at hv;omega
theorem mul_inv {i j c x:Nat} {b o:List Nat} {v0:Nat} (aP:i+j<o.length) (hv:val o+4294967296 ^ (i+j)*c=v0+4294967296 ^ i*(x*val (b.take j))) {s:Nat}
  (hs:s=c+(x*b.getD j 0+o.getD (i+j) 0)) :
  val (o.set (i+j) (s % 4294967296))+4294967296 ^ (i+(j+1))*(s/4294967296)=v0+4294967296 ^ i*(x*val (b.take (j+1))):=by
 have h1:=val_set (x:=s % 4294967296) aP;have h2:=carry_step (4294967296 ^ (i+j)) s;have h3:4294967296 ^ i*(x*val (b.take (j+1)))=4294967296 ^ i*(x*val (b.take j))+4294967296 ^ (i+j)*(x*b.getD j 0):=by
  rw [val_take_succ',bm,bm,fh];congr 1;rw [sF x,bW]
 have h4:4294967296 ^ (i+j)*s=4294967296 ^ (i+j)*c+4294967296 ^ (i+j)*(x*b.getD j 0)+4294967296 ^ (i+j)*o.getD (i+j) 0:=by
  rw [hs,bm,bm];omega
 have h5:4294967296 ^ (i+(j+1))=4294967296 ^ (i+j)*4294967296:=by rw [<-Nat.add_assoc,dz]
 rw [h3,h5];omega
theorem mul_row {i c x:Nat} {a b o:List Nat} {v0:Nat} (_hi:i<a.length) (aP:i+b.length<o.length) (h0:o.getD (i+b.length) 0=0) (hx:x=a.getD i 0) (qR:v0=val (a.take i)*val b)
  (hv:val o+4294967296 ^ (i+b.length)*c=v0+4294967296 ^ i*(x*val (b.take b.length))) :
  val (o.set (i+b.length) c)=val (a.take (i+1))*val b:=by
 have h1:=val_set (x:=c) aP;rw [eZ] at hv;have h2:val (a.take (i+1))*val b=v0+4294967296 ^ i*(x*val b):=by
  rw [val_take_succ',cI,qR,hx,bW]
 rw [h2];rw [h0] at h1;omega
theorem small_inv {k d r:Nat} {a q:List Nat} (hk:k<a.length) (hq:q.length=a.length) (hv:val (q.drop (k+1))*d+r=val (a.drop (k+1))) {s:Nat} (hs:s=r*4294967296+a.getD k 0) :
  val ((q.set k (s/d)).drop k)*d+s % d=val (a.drop k):=by
 rw [drop_set_self J,val_drop hk,<-hv,cI];have:=n7 s d;rw [bz (s/d)];rw [bm,hs] at *
 have e:4294967296*val (q.drop (k+1))*d=4294967296*(val (q.drop (k+1))*d):=by rw [bW]
 rw [e];omega
theorem small_lt {d r x:Nat} (hr:r<d) (hx:x<4294967296):(r*4294967296+x)/d<4294967296:=by
 rw [fP J];have:(r+1)*4294967296<=d*4294967296:=bw _ hr;rw [bz 4294967296];omega
theorem small_end {d r:Nat} {a q:List Nat} (hd:0<d) (hr:r<d) (hq:Lim q) (hv:val (q.drop 0)*d+r=val (a.drop 0)):trimL q=dig (val a/d)/\r=val a % d:=by
 rw [dY,dY] at hv;rw [trimL_dig hq,<-hv];refine⟨?_,?_⟩
 ·congr 1;rw [bz,ad1 hd,qm hr];rfl
 rw [bz,Nat.mul_add_mod,cV hr]
theorem raise_inv {k c p:Nat} {a o:List Nat} (aP:k<o.length) (hv:val (o.take k)+4294967296 ^ k*c=val (a.take k)*p) {s:Nat} (hs:s=a.getD k 0*p+c) :
  val ((o.set k (s % 4294967296)).take (k+1))+4294967296 ^ (k+1)*(s/4294967296)=val (a.take (k+1))*p:=by
 rw [val_set_take _ _ _ aP,val_take_succ' a,dz,cI];have h1:=carry_step (4294967296 ^ k) s;have h2:4294967296 ^ k*s=4294967296 ^ k*(a.getD k 0*p)+4294967296 ^ k*c:=by rw [hs,bm]
 have h3:4294967296 ^ k*a.getD k 0*p=4294967296 ^ k*(a.getD k 0*p):=by rw [bW]
 omega
theorem raise_end {c p:Nat} {a o:List Nat} (aP:o.length=a.length+1) (hv:val (o.take a.length)+4294967296 ^ a.length*c=val (a.take a.length)*p):val (o.set a.length c)=val a*p:=by
 have h1:=val_set_take o a.length c J;rw [aH al] at h1;rw [val_take_all a (an _)] at hv;omega
def blen (n:Nat):Nat:=if n=0 then 0 else n.log2+1
theorem blen_zero {n:Nat}:blen n=0↔n=0:=by unfold blen;split<;>simp_all
theorem blen_le {n k:Nat}:blen n<=k↔n<2 ^ k:=by
 unfold blen;split
 ·rename_i h;subst h;simp [dU]
 rename_i h;rw [Nat.succ_le_iff,Nat.log2_lt h]
theorem blen_lt {n k:Nat}:k<blen n↔2 ^ k<=n:=by
 rw [<-Nat.not_le,blen_le,aaH]
theorem blen_one {n:Nat}:blen n=1↔n=1:=by
 have h1:=blen_le (n:=n) (k:=1);have h0:=blen_zero (n:=n);simp only [Nat.pow_one] at h1;omega
theorem blen_eq {n k:Nat} (h1:2 ^ k<=n) (h2:n<2 ^ (k+1)):blen n=k+1:=by
 have a:=blen_lt.2 h1;have b:=blen_le.2 h2;omega
theorem blen_div {n k:Nat} (h:2 ^ k<=n):blen n=k+blen (n/2 ^ k):=by
 have hp:0<2 ^ k:=dU J;have h0:n/2 ^ k≠0:=by
  intro e;rw [Nat.div_eq_zero_iff] at e;omega
 have h1:0<blen (n/2 ^ k):=by
  rcases nu (blen (n/2 ^ k)) with e | e
  ·exact absurd (blen_zero.1 e) h0
  exact e
 obtain⟨j,hj⟩:∃ j,blen (n/2 ^ k)=j+1:=⟨_,(Nat.sub_add_cancel h1).symm⟩;have h2:2 ^ j<=n/2 ^ k:=blen_lt.1 J;have h3:n/2 ^ k<2 ^ (j+1):=blen_le.1 J;rw [nO hp,<-fh] at h2;rw [fP hp,<-fh] at h3;rw [hj];have:=blen_eq (n:=n) (k:=k+j) (by rwa [dM k]) (by rwa [dM k,zK]);omega
theorem blen_val {l:List Nat} (hL:Lim l) (h:Can l) (hl:0<l.length):blen (val l)=32*(l.length-1)+blen (l.getD (l.length-1) 0):=by
 have ak:=can_getLast h hl;have hp:0<4294967296 ^ (l.length-1):=dU J;have hd:val (l.drop (l.length-1))=l.getD (l.length-1) 0:=by
  rw [val_drop J,show l.length-1+1=l.length by omega,List.drop_length];simp [val]
 have hs:=val_split l (l.length-1) J;have ht:val (l.take (l.length-1))<4294967296 ^ (l.length-1):=val_lt_len (lim_take hL _) aj;rw [hd] at hs;have abx:(2:Nat) ^ (32*(l.length-1))=4294967296 ^ (l.length-1):=by rw [Nat.pow_mul]
 have fe:4294967296 ^ (l.length-1)*1<=4294967296 ^ (l.length-1)*l.getD (l.length-1) 0:=fx _ J;rw [blen_div (k:=32*(l.length-1)) (by rw [abx];omega),abx];congr 2;rw [hs,dM,ad1 hp,qm ht];rfl
end Go.Lg
namespace Go.Lg
section
variable {a b s x c:Nat}
theorem shlV (hs:s<64) (h:a*2 ^ s<18446744073709551616):shI .shl .u64 (a:Nat) (s:Nat)=some (.int .u64 ((a*2 ^ s:Nat):Int)):=by
 have e:min ((s:Int)).toNat IntKind.u64.bits=s:=by show min s 64=s;omega
 have e2:(a:Int)*2 ^ s=((a*2 ^ s:Nat):Int):=aj;simp only [shI];rw [if_neg J,e,e2,IntWalk.u64_in _ J]
theorem shrC {k:IntKind} {m:Nat} (hm:m<=k.bits):shI .shr k (a:Nat) (m:Nat)=some (.int k ((a/2 ^ m:Nat):Int)):=by
 have e:min ((m:Int)).toNat k.bits=m:=by show min m k.bits=m;omega
 simp only [shI];rw [if_neg J,e,zr _ (Int.pow_nonneg J)];congr 2
theorem orV (hc:c<2 ^ s) (h:x*2 ^ s+c<18446744073709551616):binI .or .u64 (c:Nat) ((x*2 ^ s:Nat):Int)=some (.int .u64 ((x*2 ^ s+c:Nat):Int)):=by
 have e:(kD IntKind.u64.bits (c:Int) ||| kD IntKind.u64.bits ((x*2 ^ s:Nat):Int)).toNat=x*2 ^ s+c:=by
  rw [bv_nat,bv_nat,aaj,pR,pR];have e1:x*2 ^ s % 2 ^ IntKind.u64.bits=x*2 ^ s:=cV (by show _<18446744073709551616;omega);have e2:c % 2 ^ IntKind.u64.bits=c:=cV (by show _<18446744073709551616;omega);rw [e1,e2,aca];have:=zN (i:=s) (b:=c) hc x;rw [aab] at this;exact this.symm
 simp only [binI,e];rw [IntWalk.u64_in _ J]
theorem tbl {s:ByteArray} (h:(List.range 256).all (fun n=>s[n]?==some (UInt8.ofNat (blen n)))=true) {n:Nat} (hn:n<256):s[n]?=some (UInt8.ofNat (blen n)):=by
 rw [List.all_eq_true] at h;simpa using h n (by simpa using hn)
end
def padL:Nat->Nat->List Nat
 | 0,_=>[]
 | k+1,m=>m % 4294967296 :: padL k (m/4294967296)
theorem padL_len:∀ k m,(padL k m).length=k
 | 0,_=>rfl
 | k+1,m=>by simp [padL,padL_len k]
theorem padL_lim:∀ k m,Lim (padL k m)
 | 0,_=>fun x h=>by simp [padL] at h
 | k+1,m=>fun x h=>by
   simp only [padL,bp] at h;rcases h with rfl | h
   ·omega
   exact padL_lim k _ x h
theorem padL_eq:∀ {o:List Nat} {k:Nat},Lim o->o.length=k->o=padL k (val o)
 | [],k,_,h=>by subst h;rfl
 | x :: xs,k,hl,h=>by
   subst h;have hx:=hl x aj;have ih:=padL_eq (o:=xs) (k:=xs.length) (fun y hy=>hl y (by simp [hy])) rfl;simp only [aQ,padL,val];have e1:(x+4294967296*val xs) % 4294967296=x:=J;have e2:(x+4294967296*val xs)/4294967296=val xs:=J;rw [e1,e2,<-ih]
theorem padL_val:∀ {k m:Nat},m<4294967296 ^ k->val (padL k m)=m
 | 0,m,h=>by simp at h;subst h;rfl
 | k+1,m,h=>by
   simp only [padL,val];rw [padL_val (k:=k) (by rw [fP J];rwa [dz] at h)];omega
section
variable {P:Program} {ρ:Operand->LV} {α:Type} {e:α->LV}
theorem OpA.lit2 {T E:TypeId} {x y:Operand} {d sz:Nat} {ag:Bool} {z a b:α} (he:EncOK e sz ag) (hT:P.underlying T=some (.slice E)) (hz:ZeroOK P E (e z)) (hE:TyIs P E sz ag) (hx:ρ x=e a) (hy:ρ y=e b) (aT:0<sz) (dj:sz<=1000) :
  OpA P ρ d (.buildSlice T 2 #[(0,x),(1,y)]) (.ref d sz 0 2) ⟨sz,[a,b].map e,true⟩:=by
 have:=OpA.lit (P:=P) (ρ:=ρ) (d:=d) (T:=T) (n:=2) (ps:=#[(0,x),(1,y)]) hT hz (by rw [he.isAgg];exact hE) (he.csize z) J J aT (by
  intro p hp;simp only [bp,cN,or_false] at hp;rcases hp with rfl | rfl
  ·refine⟨by simp,?_,by rw [hx];exact LV.pure_ne_any (he.pure _),by rw [hx];exact LV.pure_ne_tup (he.pure _)⟩;simp [lay,hx,he.csize,he.isAgg]
  refine⟨by simp,?_,by rw [hy];exact LV.pure_ne_any (he.pure _),by rw [hy];exact LV.pure_ne_tup (he.pure _)⟩;simp [lay,hy,he.csize,he.isAgg])
 simpa [buildL,hx,hy,ai] using this
end
section
variable {P:Program} {n:Nat} {W w:World} {X:XS} {Z0:Nat->Prop} {L:St} {a:Act} {K:St->Prop} {Q:LEx->St->Prop}
theorem nil_reg {s0 d1 d2 sz:Nat} {l:List LV} {T E ty pM U:TypeId} {pos pos':String} {af qj:Array Edge} (h0:L.slot s0=.list sz l) (hT:P.underlying T=some (.slice E))
  (hK:∀ b:Bool,(b=true->l=[])->Q .normal ((L.put (some d1) (.list sz l)).put (some d2) (.v (.bool b)))) :
  ∀ n W X Z0 a w,Sim n W X Z0 L a w->dstsOk n (.region 0 [Oper.mk (some d1) (.move (.tmp s0)) ty pos af none,Oper.mk (some d2) (.binOp .eql T (.tmp d1) (.const (.slice none 0 0)) U) pM pos' qj none].toArray false)=true ->
   ∀ id,(Code.region id [Oper.mk (some d1) (.move (.tmp s0)) ty pos af none,Oper.mk (some d2) (.binOp .eql T (.tmp d1) (.const (.slice none 0 0)) U) pM pos' qj none].toArray false).wp P (PostL n W X Z0 Q) a w:=by
 intro n W X Z0 a w hs hd id;simp only [dstsOk,List.all_cons,List.all_nil,Bool.and_true,Bool.and_eq_true,decide_eq_true_eq] at hd;refine wp_region_list ?_;have h1:=step_sound (P:=P) (dr:=false) (ops:=[Oper.mk (some d1) (.move (.tmp s0)) ty pos af none,Oper.mk (some d2) (.binOp .eql T (.tmp d1) (.const (.slice none 0 0)) U) pM pos' qj none].toArray)
  (o:=Oper.mk (some d1) (.move (.tmp s0)) ty pos af none) hs (L':=L.put (some d1) (.list sz l))
  (.val (r:=.list sz l) (fr:=[]) (H1:=L.heap) rfl (Heap.le_refl _) (fun _ _ h=>by cases h) (.pure (by have:=OpP.move (P:=P) (H:=L.heap) (ρ:=L.ev) (.tmp s0);rwa [show L.ev (.tmp s0)=LV.list sz l from h0] at this)) rfl)
  (fun t ht=>by cases ht;exact hd.1)
  (K:=wpList P [Oper.mk (some d1) (.move (.tmp s0)) ty pos af none,Oper.mk (some d2) (.binOp .eql T (.tmp d1) (.const (.slice none 0 0)) U) pM pos' qj none].toArray (PostL n W X Z0 Q)
   [Oper.mk (some d2) (.binOp .eql T (.tmp d1) (.const (.slice none 0 0)) U) pM pos' qj none]) (Q:=PostL n W X Z0 Q) (fun a' w' cH=>?_)
 ·unfold wpList;split
  ·rename_i h;rw [if_pos h] at h1;exact .inl h1
  rename_i h;rw [if_neg h] at h1;exact h1
 obtain⟨bj,hsz,μ,Z,hc,hr⟩:=cH;have e1:=hr d1;rw [put_slot,if_pos rfl] at e1;have e2:=e1.2 rfl;simp only [Rep] at e2;obtain⟨ad,len,cap,q1,q2,q3,q4,q5⟩:=e2;simp only [b7,and_true] at q1;have bl:a'.eval (.tmp d1)=.slice ad len cap:=q1;have hw:Region.wanted (Oper.mk (some d2) (.binOp .eql T (.tmp d1) (.const (.slice none 0 0)) U) pM pos' qj none) (yielded [Oper.mk (some d1) (.move (.tmp s0)) ty pos af none,Oper.mk (some d2) (.binOp .eql T (.tmp d1) (.const (.slice none 0 0)) U) pM pos' qj none].toArray a'.tmps)=true:=rfl;unfold wpList;rw [if_pos hw];left;have bV:(execOp a'.eval (Oper.mk (some d2) (.binOp .eql T (.tmp d1) (.const (.slice none 0 0)) U) pM pos' qj none)).run P w'=.ok (.value (.bool ad.isNone)) w':=by
  have hv:a'.eval (.const (.slice none 0 0))=.slice none 0 0:=rfl;simp only [execOp,bl,hv];simp [eqGuard,binOp,run_equal_slice_nil w' T E ad len cap hT]
 unfold Oper.wp;rw [bV,Oper.upon_value];refine⟨_,hK ad.isNone ?_,by rw [put_defers];exact bj,by rw [put_size];exact hsz,μ,Z,by rw [put_heap];exact hc,put_rep (fun t ht=>by cases ht;rw [hsz];exact hd.2) hr RepV.bool⟩;intro hb;rcases q4 with q4 | ⟨blk,off,c,T',fz,part,rest,g1,_⟩
 ·exact q4
 rw [g1] at hb;cases hb
end
section
variable {R V p vt v2 vl top u2 rl:Nat}
theorem kn_top (hV:V=(vt*4294967296+v2)*p+vl) (hR:R=(top*4294967296+u2)*p+rl) (eG:rl<p) (og:u2<4294967296) (kQ:0<vt):R/V<=top/vt:=by
 rw [nO kQ];have h1:R/V*V<=R:=Nat.div_mul_le_self R V;have h2:R/V*(vt*4294967296*p)<=R/V*V:=fx _ (by rw [hV,cI];omega);have h3:R<(top+1)*4294967296*p:=by
  rw [hR];have:(top*4294967296+u2+1)*p<=(top+1)*4294967296*p:=bw _ J;rw [cI _ 1] at this;omega
 have h4:R/V*vt*(4294967296*p)<(top+1)*(4294967296*p):=by
  have e1:R/V*vt*(4294967296*p)=R/V*(vt*4294967296*p):=by simp only [bW]
  have e2:(top+1)*(4294967296*p)=(top+1)*4294967296*p:=by simp only [bW]
  rw [e1,e2];omega
 exact Nat.le_of_lt_succ (ad5 h4)
theorem kn_dec {x rest:Nat} (hV:V=(vt*4294967296+v2)*p+vl) (hR:R=(top*4294967296+u2)*p+rl) (eG:rl<p) (ef:0<V)
  (hx:x*vt+rest=top) (h:rest*4294967296+u2<x*v2):R/V<x:=by
 rw [fP ef];have h1:x*((vt*4294967296+v2)*p)<=x*V:=fx _ (by rw [hV];omega);have h2:top*4294967296+u2+1<=x*(vt*4294967296+v2):=by
  rw [<-hx,cI,bm,bW];omega
 have h3:(top*4294967296+u2+1)*p<=x*(vt*4294967296+v2)*p:=bw _ h2;rw [cI _ 1] at h3;rw [bW] at h3;omega
theorem kn_fin {x rest:Nat} (hV:V=(vt*4294967296+v2)*p+vl) (hR:R=(top*4294967296+u2)*p+rl) (iU:vl<p) (kQ:0<vt) (ef:0<V)
  (hx:x*vt+rest=top) (tx:x<=4294967296) (h:x*v2<=rest*4294967296+u2):x<=R/V+1:=by
 cases x with
 | zero=>exact Nat.zero_le _
 | succ y =>
  have:y<=R/V:=by
   rw [nO ef];have h1:(y+1)*(vt*4294967296+v2)<=top*4294967296+u2:=by
    rw [<-hx,bm,cI _ rest,<-bW];omega
   have h2:(y+1)*(vt*4294967296+v2)*p<=(top*4294967296+u2)*p:=bw _ h1;have h3:y*vl<=y*p:=fx _ (lE iU);have h4:y*p<=4294967296*p:=bw _ J;have h5:4294967296*p<=(vt*4294967296+v2)*p:=bw _ J;have h6:y*V=y*(vt*4294967296+v2)*p+y*vl:=by rw [hV,bm,bW]
   have h7:(y+1)*(vt*4294967296+v2)*p=y*(vt*4294967296+v2)*p+(vt*4294967296+v2)*p:=by rw [cI,cI,vh]
   omega
  omega
theorem kn_un {un u1:Nat} (hV:V=(vt*4294967296+v2)*p+vl) (hR:R=((un*4294967296+u1)*4294967296+u2)*p+rl) (iU:vl<p) (vZ:v2<4294967296) (qY:R<V*4294967296):un<=vt:=by
 apply im;intro h;have h1:(vt+1)*4294967296<=un*4294967296:=J;have h2:(vt*4294967296+v2+1)*4294967296<=(un*4294967296+u1)*4294967296+u2:=by
  have:(vt*4294967296+v2+1)<=un*4294967296+u1:=J;exact aw (bw 4294967296 this) (Nat.le_add_right _ _)
 have h3:(vt*4294967296+v2+1)*4294967296*p<=((un*4294967296+u1)*4294967296+u2)*p:=bw _ h2;have h4:V<=(vt*4294967296+v2+1)*p:=by rw [hV,cI _ 1];omega
 have h5:V*4294967296<=(vt*4294967296+v2+1)*p*4294967296:=bw _ h4;have h6:(vt*4294967296+v2+1)*p*4294967296=(vt*4294967296+v2+1)*4294967296*p:=by rw [aes]
 omega
theorem kn_break {x rest un u1:Nat} (hx:x*vt+rest=un*4294967296+u1) (ud:un<=vt) (jx:u1<4294967296) (vZ:v2<4294967296) (hr:4294967296<=rest):x<4294967296/\x*v2<=rest*4294967296+u2:=by
 have rL:x<4294967296:=by
  apply im;intro h;have h1:4294967296*vt<=x*vt:=bw vt J;omega
 refine⟨rL,?_⟩;have h1:x*v2<=4294967296*4294967296:=cx (lE rL) (lE vZ);have h2:4294967296*4294967296<=rest*4294967296:=bw _ hr;omega
end
theorem zeros_above {l:List Nat} {k:Nat} (h:val l<4294967296 ^ k):∀ p,k<=p->l.getD p 0=0:=fun p hp=>by
 apply im;intro h0;have aG:p<l.length:=by
  apply im;intro hh;exact h0 (getD_ge l p J)
 have h1:=val_split l p J;rw [val_drop aG] at h1;have h2:4294967296 ^ k<=4294967296 ^ p:=gg J hp;have h3:4294967296 ^ p*1<=4294967296 ^ p*(l.getD p 0+4294967296*val (l.drop (p+1))):=fx _ J;omega
theorem val_all_zero:∀ {l:List Nat},(∀ p,l.getD p 0=0)->val l=0
 | [],_=>rfl
 | x :: xs,h=>by
   have h0:x=0:=by simpa using h 0
   have:=val_all_zero (l:=xs) (fun p=>by simpa using h (p+1));simp [val,h0,this]
theorem getD_drop (l:List Nat) (k p:Nat):(l.drop k).getD p 0=l.getD (k+p) 0:=by
 rw [ao,ao,List.getElem?_drop]
theorem val_lt_of_zeros {l:List Nat} {k:Nat} (hl:Lim l) (h:∀ p,k<=p->l.getD p 0=0):val l<4294967296 ^ k:=by
 by_cases hk:k<=l.length
 ·rw [val_split l k hk,val_all_zero (l:=l.drop k) (fun p=>by rw [getD_drop];exact h _ J),oR,iH];exact val_lt_len (lim_take hl k) al
 exact val_lt_len hl J
theorem val_three {l:List Nat} {k:Nat} (hk:k+2<l.length) (hz:∀ p,k+3<=p->l.getD p 0=0) :
  val l=((l.getD (k+2) 0*4294967296+l.getD (k+1) 0)*4294967296+l.getD k 0)*4294967296 ^ k+val (l.take k):=by
 have h3:val (l.drop (k+2+1))=0:=val_all_zero (fun p=>by rw [getD_drop];exact hz _ J);rw [val_split l k J,val_drop J,val_drop (k:=k+1) J,val_drop (k:=k+1+1) J,h3,bz (4294967296 ^ k),dM,show k+1+1=k+2 from rfl];congr 2;omega
theorem val_two_top {l:List Nat} {k:Nat} (hk:k+2=l.length):val l=(l.getD (k+1) 0*4294967296+l.getD k 0)*4294967296 ^ k+val (l.take k):=by
 have h3:val (l.drop (k+1+1))=0:=by rw [ep J];rfl
 rw [val_split l k J,val_drop J,val_drop (k:=k+1) J,h3,bz (4294967296 ^ k),dM];congr 2;omega
theorem ms_inv {i j c br x:Nat} {v ul:List Nat} {v0:Nat} (eM:i+j<ul.length) (bO:Lim ul) (fW:br<=1)
  (hv:val ul+4294967296 ^ j*(x*val (v.take i))=v0+4294967296 ^ (i+j)*(c+br)) {c1 d:Nat} (mb:c1=c+x*v.getD i 0)
  (hd:d=(18446744073709551616+(18446744073709551616+ul.getD (i+j) 0-c1 % 4294967296) % 18446744073709551616-br) % 18446744073709551616) :
  d/9223372036854775808<=1/\Lim (ul.set (i+j) (d % 4294967296)) /\
   val (ul.set (i+j) (d % 4294967296))+4294967296 ^ j*(x*val (v.take (i+1)))=v0+4294967296 ^ (i+1+j)*(c1/4294967296+d/9223372036854775808):=by
 have hu:=getD_lim bO (i+j);refine⟨J,lim_set bO _ _ J,?_⟩;have h1:=val_set (x:=d % 4294967296) eM;have h2:d % 4294967296+c1 % 4294967296+br=ul.getD (i+j) 0+4294967296*(d/9223372036854775808):=J;have h3:4294967296 ^ (i+j)*(d % 4294967296)+4294967296 ^ (i+j)*(c1 % 4294967296)+4294967296 ^ (i+j)*br=4294967296 ^ (i+j)*ul.getD (i+j) 0+4294967296 ^ (i+j)*4294967296*(d/9223372036854775808):=by
  rw [<-bm,<-bm,h2,bm,bW]
 have h4:=carry_step (4294967296 ^ (i+j)) c1;have h5:4294967296 ^ (i+j)*c1=4294967296 ^ (i+j)*c+4294967296 ^ j*(x*(4294967296 ^ i*v.getD i 0)):=by
  rw [mb,bm,fh];congr 1;simp only [bW,sF,bz]
 have h6:4294967296 ^ (i+1+j)=4294967296 ^ (i+j)*4294967296:=by rw [zK,dz]
 rw [val_take_succ',bm x,bm,h6,bm];rw [bm] at hv;omega
theorem ms_last {j n c br x t:Nat} {ul:List Nat} {V v0:Nat} (eM:n+j<ul.length) (bO:Lim ul) (fW:br<=1) (hc:c<4294967296)
  (hv:val ul+4294967296 ^ j*(x*V)=v0+4294967296 ^ (n+j)*(c+br)) (ht:t=ul.getD (n+j) 0) {d:Nat}
  (hd:d=(18446744073709551616+(18446744073709551616+t-c) % 18446744073709551616-br) % 18446744073709551616) :
  Lim (ul.set (n+j) (d % 4294967296))/\d/9223372036854775808<=1 /\
   val (ul.set (n+j) (d % 4294967296))+4294967296 ^ j*(x*V)=v0+4294967296 ^ (n+j+1)*(d/9223372036854775808):=by
 have hu:=getD_lim bO (n+j);refine⟨lim_set bO _ _ J,J,?_⟩;have h1:=val_set (x:=d % 4294967296) eM;have h2:d % 4294967296+c+br=t+4294967296*(d/9223372036854775808):=J;have h3:4294967296 ^ (n+j)*(d % 4294967296)+4294967296 ^ (n+j)*c+4294967296 ^ (n+j)*br=4294967296 ^ (n+j)*t+4294967296 ^ (n+j)*4294967296*(d/9223372036854775808):=by
  rw [<-bm,<-bm,h2,bm,bW]
 rw [dz];rw [bm] at hv;rw [<-ht] at h1;omega
theorem ab_inv {i j c:Nat} {v ul:List Nat} {v0:Nat} (eM:i+j<ul.length) (bO:Lim ul) (hv:val ul+4294967296 ^ (i+j)*c=v0+4294967296 ^ j*val (v.take i)) {s:Nat} (hs:s=c+(ul.getD (i+j) 0+v.getD i 0)) :
  Lim (ul.set (i+j) (s % 4294967296))/\val (ul.set (i+j) (s % 4294967296))+4294967296 ^ (i+1+j)*(s/4294967296)=v0+4294967296 ^ j*val (v.take (i+1)):=by
 refine⟨lim_set bO _ _ J,?_⟩;have h1:=val_set (x:=s % 4294967296) eM;have h2:=carry_step (4294967296 ^ (i+j)) s;have h3:4294967296 ^ (i+j)*s=4294967296 ^ (i+j)*c+4294967296 ^ (i+j)*ul.getD (i+j) 0+4294967296 ^ j*(4294967296 ^ i*v.getD i 0):=by
  rw [hs,bm,bm,fh];simp only [bW,sF,bz];omega
 have h6:4294967296 ^ (i+1+j)=4294967296 ^ (i+j)*4294967296:=by rw [zK,dz]
 rw [val_take_succ',bm,h6];omega
end Go.Lg
namespace Go.Lg
theorem powpos (k:Nat):0<4294967296 ^ k:=dU J
theorem kn_zero {ul:List Nat} {V n j:Nat} (wg:V<4294967296 ^ n) (aG:val ul<V*4294967296 ^ (j+1)):∀ p,n+j+1<=p->ul.getD p 0=0:=by
 apply zeros_above;have h1:V*4294967296 ^ (j+1)<=4294967296 ^ n*4294967296 ^ (j+1):=bw _ (lE wg);rw [<-fh] at h1;exact rI aG h1
theorem kn_ctx {ul:List Nat} {V n j:Nat} (hn:(dig V).length=n+2) (eM:n+2+j<ul.length) (bO:Lim ul) (aG:val ul<V*4294967296 ^ (j+1)) :
  ∃ vl rl,vl<4294967296 ^ n/\rl<4294967296 ^ n/\V=((dig V).getD (n+1) 0*4294967296+(dig V).getD n 0)*4294967296 ^ n+vl /\
   val ul/4294967296 ^ j=((ul.getD (n+2+j) 0*4294967296+ul.getD (n+1+j) 0)*4294967296+ul.getD (n+j) 0)*4294967296 ^ n+rl /\
   val ul/4294967296 ^ j<V*4294967296:=by
 have wg:V<4294967296 ^ (n+2):=dig_length_ge J;have hz:=kn_zero wg aG;have h1:=val_two_top (l:=dig V) (k:=n) J;have h2:=val_three (l:=ul) (k:=n+j) J (fun p hp=>hz p J);rw [val_dig] at h1;refine⟨val ((dig V).take n),val (ul.take (n+j))/4294967296 ^ j,val_lt_len (lim_take (lim_dig V) _) al,?_,h1,?_,?_⟩
 ·rw [fP (powpos j),<-fh];exact val_lt_len (lim_take bO _) al
 ·have e1:n+j+2=n+2+j:=J;have e2:n+j+1=n+1+j:=J;rw [e1,e2] at h2;rw [h2,fh,<-bW,dM,Nat.add_mul_div_right _ _ (powpos j),dM]
 rw [fP (powpos j)];rw [dz] at aG;have e:V*4294967296*4294967296 ^ j=V*(4294967296 ^ j*4294967296):=by rw [bW,bz 4294967296]
 rw [e];exact aG
section
variable {ul ul0:List Nat} {V n j x:Nat}
theorem kn_le (h:val ul+4294967296 ^ j*(x*V)=val ul0) (hV:0<V):x<=val ul0/4294967296 ^ j/V:=by
 rw [nO hV,nO (powpos j),bz _ (4294967296 ^ j)];omega
theorem kn_gt (h:val ul+4294967296 ^ j*(x*V)=val ul0+4294967296 ^ (n+j+1)) (aG:val ul<4294967296 ^ (n+j+1)) (hV:0<V):val ul0/4294967296 ^ j/V<x:=by
 rw [fP hV,fP (powpos j),bz _ (4294967296 ^ j)];omega
theorem kn_back {ul3:List Nat} {c:Nat} (hx:0<x) (hxV:4294967296 ^ j*((x-1)*V)<=val ul0) (h:val ul+4294967296 ^ j*(x*V)=val ul0+4294967296 ^ (n+j+1)) (eM:n+j<ul3.length) (ky:Lim ul3) (hz:∀ p,n+j+1<=p->ul3.getD p 0=0)
  (hc:c<=1) (h3:val ul3+4294967296 ^ (n+j)*c=val ul+4294967296 ^ j*V) {t:Nat} (ht:t=ul3.getD (n+j) 0) :
  Lim (ul3.set (n+j) ((t+c) % 4294967296))/\val (ul3.set (n+j) ((t+c) % 4294967296))+4294967296 ^ j*((x-1)*V)=val ul0:=by
 have hs:=val_split ul3 (n+j) J;rw [val_drop eM,val_all_zero (l:=ul3.drop (n+j+1)) (fun p=>by rw [getD_drop];exact hz _ J),oR,iH,<-ht] at hs;have mw:val (ul3.take (n+j))<4294967296 ^ (n+j):=val_lt_len (lim_take ky _) al;have uL:=getD_lim ky (n+j);rw [<-ht] at uL;obtain⟨y,rfl⟩:∃ y,x=y+1:=⟨x-1,J⟩;rw [df] at *
 have e1:4294967296 ^ j*((y+1)*V)=4294967296 ^ j*(y*V)+4294967296 ^ j*V:=by rw [cI,vh,bm]
 rw [e1] at h;have h4:val (ul3.take (n+j))+4294967296 ^ (n+j)*(t+c)=(val ul0-4294967296 ^ j*(y*V))+4294967296 ^ (n+j)*4294967296:=by
  rw [bm,<-dz];omega
 have h5:4294967296<=t+c:=by
  apply im;intro hh;have:4294967296 ^ (n+j)*(t+c+1)<=4294967296 ^ (n+j)*4294967296:=fx _ J;rw [bm _ (t+c)] at this;omega
 have h6:t+c=4294967296:=J;rw [h6] at h4 ⊢;refine⟨lim_set ky _ _ J,?_⟩;have h7:=val_set (x:=4294967296 % 4294967296) eM;rw [<-ht,adY,oR,iH] at h7;rw [adY];omega
theorem kn_next {ql:List Nat} {U0:Nat} (hV:0<V) (hx:x=val ul0/4294967296 ^ j/V) (h:val ul+4294967296 ^ j*(x*V)=val ul0) (hj:j<ql.length)
  (hv:val ul0+V*4294967296 ^ (j+1)*val (ql.drop (j+1))=U0) :
  val ul+V*4294967296 ^ j*val ((ql.set j x).drop j)=U0/\val ul<V*4294967296 ^ j:=by
 constructor
 ·rw [drop_set_self hj,<-hv,<-h,bm];have e1:V*4294967296 ^ j*x=4294967296 ^ j*(x*V):=by simp only [bW,sF,bz]
  have e2:V*4294967296 ^ j*(4294967296*val (ql.drop (j+1)))=V*4294967296 ^ (j+1)*val (ql.drop (j+1)):=by
   rw [dz];simp only [bW]
  rw [e1,e2];omega
 have h1:val ul0/4294967296 ^ j<(x+1)*V:=by
  rw [<-fP hV,hx];omega
 rw [fP (powpos j)] at h1;have e:(x+1)*V*4294967296 ^ j=4294967296 ^ j*(x*V)+V*4294967296 ^ j:=by
  rw [cI,cI,vh,bz (x*V)]
 rw [e] at h1;omega
end
theorem pow_le_of {s:Nat} (hs:s<32):2 ^ s<=2147483648:=gg (n:=2) J (show s<=31 by omega)
theorem kn_shift {top:Nat} (h0:0<top) (h:top<4294967296):2147483648<=top*2 ^ (32-blen top)/\top*2 ^ (32-blen top)<4294967296:=by
 have h1:blen top<=32:=blen_le.2 h;have h2:1<=blen top:=by
  rcases nu (blen top) with e | e
  ·exact absurd (blen_zero.1 e) J
  exact e
 have h3:2 ^ (blen top-1)<=top:=blen_lt.1 J;have h4:top<2 ^ blen top:=blen_le.1 (an _);constructor
 ·have:=bw (2 ^ (32-blen top)) h3;rw [<-fh,show blen top-1+(32-blen top)=31 by omega] at this;exact this
 have:=zt h4 (dU (n:=32-blen top) (show 0<2 by omega));rw [<-fh,show blen top+(32-blen top)=32 by omega] at this;exact this
theorem kn_norm {Bv n s:Nat} (hn:(dig Bv).length=n+1) (hs:s=32-blen ((dig Bv).getD n 0)):s<32/\(dig (Bv*2 ^ s)).length=n+1/\2147483648*4294967296 ^ n<=Bv*2 ^ s/\Bv*2 ^ s<4294967296 ^ (n+1):=by
 have ak:=can_getLast (can_dig Bv) (by omega:0<(dig Bv).length);rw [hn,df] at ak;have rF:=getD_dig_lt Bv n;obtain⟨h1,h2⟩:=kn_shift (ll ak) rF;rw [<-hs] at h1 h2;have hv:Bv=4294967296 ^ n*(dig Bv).getD n 0+val ((dig Bv).take n):=by
  have:=val_split (dig Bv) n J;rw [val_drop J,show (dig Bv).drop (n+1)=[] from ep J,val_dig] at this;simp only [val,oR,iH] at this;omega
 have mw:val ((dig Bv).take n)<4294967296 ^ n:=val_lt_len (lim_take (lim_dig Bv) _) al;have fe:2147483648*4294967296 ^ n<=Bv*2 ^ s:=by
  have:=fx (4294967296 ^ n) h1;have e:4294967296 ^ n*((dig Bv).getD n 0*2 ^ s)<=Bv*2 ^ s:=by
   rw [<-bW];exact bw _ J
  rw [bz] at this;omega
 have aG:Bv*2 ^ s<4294967296 ^ (n+1):=by
  have hp:0<2 ^ s:=dU J;have e1:Bv<4294967296 ^ n*((dig Bv).getD n 0+1):=by rw [bm];omega
  have e2:=zt e1 hp;have e3:(dig Bv).getD n 0*2 ^ s+2 ^ s<=4294967296:=by
   have kC:s<=32:=J;have hd:4294967296=2 ^ (32-s)*2 ^ s:=by rw [<-fh,show 32-s+s=32 by omega]
   rw [hd] at h2 ⊢;have:=ad5 h2;have:=bw (2 ^ s) this;rw [Nat.succ_mul] at this;exact this
  rw [bW,cI,vh] at e2;have e4:=fx (4294967296 ^ n) e3;rw [dz];omega
 refine⟨?_,?_,fe,aG⟩
 ·rcases nu (blen ((dig Bv).getD n 0)) with e | e
  ·exact absurd (blen_zero.1 e) ak
  omega
 have h3:=dig_length_le aG;have h4:n<(dig (Bv*2 ^ s)).length:=by
  apply im;intro hh;have:=dig_length_ge (n:=Bv*2 ^ s) (k:=n) J;have:=bw (4294967296 ^ n) (show 1<=2147483648 by omega);omega
 omega
theorem kn_vt {V n:Nat} (hn:(dig V).length=n+1) (fe:2147483648*4294967296 ^ n<=V):2147483648<=(dig V).getD n 0:=by
 have hv:=val_split (dig V) n J;rw [val_drop J,show (dig V).drop (n+1)=[] from ep J,val_dig] at hv;simp only [val,oR,iH] at hv;have mw:val ((dig V).take n)<4294967296 ^ n:=val_lt_len (lim_take (lim_dig V) _) al;apply im;intro hh;have:=fx (4294967296 ^ n) (show (dig V).getD n 0+1<=2147483648 by omega);rw [bm,bz _ 2147483648] at this;omega
theorem kn_start {A Bv s n m:Nat} (hs:s<32) (hm:(dig A).length=m) (dR:n+1<=m) (fe:2147483648*4294967296 ^ n<=Bv*2 ^ s):A*2 ^ s<Bv*2 ^ s*4294967296 ^ (m+1-(n+1))/\A*2 ^ s<4294967296 ^ (m+1):=by
 have hA:A<4294967296 ^ m:=dig_length_ge J;have hp:=pow_le_of hs;have h1:A*2 ^ s<4294967296 ^ m*2147483648:=rI (zt hA (dU J)) (fx _ hp);constructor
 ·have h2:=bw (4294967296 ^ (m+1-(n+1))) fe;rw [bW,<-fh,show n+(m+1-(n+1))=m by omega] at h2;omega
 rw [dz];exact aba h1 (Nat.mul_lt_mul_of_pos_left J (powpos m))
theorem kn_end {A Bv s:Nat} {ul ql:List Nat} (hB:0<Bv) (h:val ul+Bv*2 ^ s*val ql=A*2 ^ s) (aG:val ul<Bv*2 ^ s):val ql=A/Bv/\val ul=A % Bv*2 ^ s:=by
 have hp:0<2 ^ s:=dU J;have h1:val ul=A*2 ^ s % (Bv*2 ^ s):=by
  rw [<-h,Nat.add_mul_mod_self_left,cV aG]
 have h2:val ql=A*2 ^ s/(Bv*2 ^ s):=by
  rw [<-h,Nat.add_mul_div_left _ _ (by exact eN hB hp),qm aG,cJ]
 rw [ac2] at h1;rw [Nat.mul_div_mul_right _ _ hp] at h2;exact⟨h2,h1⟩
theorem sh_inv {i s:Nat} {w o:List Nat} (hi:i<w.length) (hs:s<32) (hd:w.getD i 0=o.getD i 0) (hv:2 ^ s*val (w.take i)=val (o.take i)+4294967296 ^ i*(o.getD i 0 % 2 ^ s)) {y:Nat} (hy:y=o.getD i 0/2 ^ s+o.getD (i+1) 0 % 2 ^ s*2 ^ (32-s)) :
  2 ^ s*val ((w.set i y).take (i+1))=val (o.take (i+1))+4294967296 ^ (i+1)*(o.getD (i+1) 0 % 2 ^ s):=by
 rw [val_set_take _ _ _ hi,val_take_succ' o,bm,hv,dz];have h1:=n7 (o.getD i 0) (2 ^ s);have h2:2 ^ s*(o.getD (i+1) 0 % 2 ^ s*2 ^ (32-s))=4294967296*(o.getD (i+1) 0 % 2 ^ s):=by
  rw [sF,<-fh,show s+(32-s)=32 by omega,bz]
 have h3:2 ^ s*(4294967296 ^ i*y)=4294967296 ^ i*(2 ^ s*(o.getD i 0/2 ^ s))+4294967296 ^ i*4294967296*(o.getD (i+1) 0 % 2 ^ s):=by
  rw [sF,hy,bm,h2,bm,bW]
 have h4:4294967296 ^ i*o.getD i 0=4294967296 ^ i*(2 ^ s*(o.getD i 0/2 ^ s))+4294967296 ^ i*(o.getD i 0 % 2 ^ s):=by rw [<-bm,h1]
 omega
section
variable {a b s x c:Nat}
theorem andU:binI .and .u64 (a:Nat) 4294967295=some (.int .u64 ((a % 4294967296:Nat):Int)):=by
 have e:(kD IntKind.u64.bits (a:Int) &&& kD IntKind.u64.bits (4294967295:Int)).toNat=a % 4294967296:=by
  have h1:(4294967295:Int)=((4294967295:Nat):Int):=rfl;rw [h1,bv_nat,bv_nat,BitVec.toNat_and,pR,pR];have h2:4294967295 % 2 ^ IntKind.u64.bits=2 ^ 32-1:=rfl;rw [h2,Nat.and_two_pow_sub_one_eq_mod];show a % 18446744073709551616 % 4294967296=a % 4294967296;omega
 simp only [binI,e];rw [IntWalk.u64_in _ J]
theorem addU32:binI .add .u32 (a:Nat) (b:Nat)=some (.int .u32 (((a+b) % 4294967296:Nat):Int)):=by
 simp only [binI];rw [IntKind.wrap_u32];congr 2
theorem shlV32 (hs:s<=32):shI .shl .u32 (a:Nat) ((s:Nat):Int)=some (.int .u32 ((a % 2 ^ (32-s)*2 ^ s:Nat):Int)):=by
 have e:min ((s:Int)).toNat IntKind.u32.bits=s:=by show min s 32=s;omega
 have e2:(a:Int)*2 ^ s=((a*2 ^ s:Nat):Int):=aj;simp only [shI];rw [if_neg J,e,e2,wrap32];congr 3;have:4294967296=2 ^ (32-s)*2 ^ s:=by rw [<-fh,show 32-s+s=32 by omega]
 rw [this,ac2]
theorem orV32 (hc:c<2 ^ s) (h:x*2 ^ s+c<4294967296):binI .or .u32 (c:Nat) ((x*2 ^ s:Nat):Int)=some (.int .u32 ((x*2 ^ s+c:Nat):Int)):=by
 have e:(kD IntKind.u32.bits (c:Int) ||| kD IntKind.u32.bits ((x*2 ^ s:Nat):Int)).toNat=x*2 ^ s+c:=by
  rw [bv_nat,bv_nat,aaj,pR,pR];have e1:x*2 ^ s % 2 ^ IntKind.u32.bits=x*2 ^ s:=cV (by show _<4294967296;omega);have e2:c % 2 ^ IntKind.u32.bits=c:=cV (by show _<4294967296;omega);rw [e1,e2,aca];have:=zN (i:=s) (b:=c) hc x;rw [aab] at this;exact this.symm
 simp only [binI,e];rw [IntWalk.u32_in _ J]
theorem half_lt {s y z:Nat} (hs:s<=32) (hy:y<4294967296):y/2 ^ s<2 ^ (32-s)/\z % 2 ^ s*2 ^ (32-s)+y/2 ^ s<4294967296:=by
 have hd:4294967296=2 ^ (32-s)*2 ^ s:=by rw [<-fh,show 32-s+s=32 by omega]
 have hp:0<2 ^ s:=dU J;have h1:y/2 ^ s<2 ^ (32-s):=by rw [fP hp];omega
 refine⟨h1,?_⟩;have h2:=Nat.mod_lt z hp;have h3:(z % 2 ^ s+1)*2 ^ (32-s)<=2 ^ s*2 ^ (32-s):=bw _ h2;rw [cI,vh,bz (2 ^ s)] at h3;omega
end
theorem val_zero_getD:∀ {l:List Nat},val l=0->∀ p,l.getD p 0=0
 | [],_,p=>by simp
 | x :: xs,h,p=>by
   simp only [val] at h;have h1:x=0:=J;have h2:val xs=0:=J
   cases p with
   | zero=>simpa using h1
   | succ p=>simpa using val_zero_getD h2 p
theorem trim_zero {l:List Nat} {n:Nat} (hn:n=l.length):∀ p,trimN n l<=p->l.getD p 0=0:=fun p hp=>by
 subst hn;have h1:=(trimN_spec l.length l (an _)).2;rw [eZ] at h1;have h2:=val_split l (trimN l.length l) (trimN_le _ _);rw [h1] at h2;have h3:val (l.drop (trimN l.length l))=0:=by
  rcases nu (val (l.drop (trimN l.length l))) with e | e
  ·exact e
  have:=eN (powpos (trimN l.length l)) e;omega
 have h4:=val_zero_getD h3 (p-trimN l.length l);rwa [getD_drop,show trimN l.length l+(p-trimN l.length l)=p by omega] at h4
theorem low_bits {l:List Nat} {r s:Nat} (hs:s<=32) (h:val l=r*2 ^ s):l.getD 0 0 % 2 ^ s=0:=by
 cases l with
 | nil=>simp
 | cons x xs =>
  simp only [val] at h;have hd:4294967296=2 ^ (32-s)*2 ^ s:=by rw [<-fh,show 32-s+s=32 by omega]
  have h1:(x+4294967296*val xs) % 2 ^ s=0:=by rw [h,Nat.mul_mod_left]
  rw [hd,aes,Nat.add_mul_mod_self_right] at h1;simpa using h1
theorem t0:(0:Int).toNat=0:=rfl
theorem lim_one {x:Nat} (h:x<4294967296):Lim [x]:=fun y hy=>by simp at hy;omega
def subAt:List Nat->Code->Option Code
 | [],c=>some c
 | i :: p,.seq x y=>if i=0 then subAt p x else subAt p y
 | i :: p,.cond _ x y=>if i=0 then subAt p x else subAt p y
 | _ :: p,.block _ c=>subAt p c
 | _ :: p,.loop c=>subAt p c
 | _,_=>none
def subF (fn:Func) (p:List Nat):Option Code:=fn.body.bind (subAt p)
section
variable {P:Program} {Q:LEx->St->Prop} {L L':St}
theorem wl_sub {fn:Func} {p:List Nat} {c:Code} (h:subF fn p=some c) (k:wpL P c Q L):wpL P ((subF fn p).getD .skip) Q L:=by rw [h];exact k
end
theorem wl_eqS {P:Program} {Q:LEx->St->Prop} {L:St} {c:Code} {S:St->St} (h:S L=L) (k:wpL P c Q (S L)):wpL P c Q L:=by rw [<-h];exact k
theorem goal_of {Q:LEx->St->Prop} {S L:St} (k:Q .normal S) (h:S=L):Q .normal L:=h ▸ k
end Go.Lg
namespace Go.Lg
theorem hce:(∀ (p:Prop) [Decidable p],(decide p=true)=p)/\(∀ (p:Prop) [Decidable p],(decide p=false)=¬ p)/\(∀ {α:Type} [BEq α] [LawfulBEq α] {a b:α},((a==b)=true)=(a=b))
  /\ (∀ {α:Type} [BEq α] [LawfulBEq α] {a b:α},((a==b)=false)=¬ (a=b))/\(∀ {α:Type} [BEq α] [LawfulBEq α] {a b:α},((a != b)=true)=¬ (a=b))/\(∀ {α:Type} [BEq α] [LawfulBEq α] {a b:α},((a != b)=false)=(a=b))
  /\ (∀ (b:Bool),(¬ (b=true))=(b=false))/\(∀ (b:Bool),((!b)=true)=(b=false))/\(∀ (b:Bool),((!b)=false)=(b=true))/\(∀ (a b:Bool),(a=!b)=¬ (a=b))/\(!true)=false/\(!false)=true :=
 ⟨fun _=>by simp,fun _=>by simp,by intros;simp,by intros;simp,by intros;simp,by intros;simp,by simp,by simp,by simp,fun a b=>by cases a<;>cases b<;>simp,rfl,rfl⟩
theorem tm0 {p:Prop} (h:p:=by first | exact tame rfl | exact tame (limL_pure _) | exact tame (magL_pure _) | exact tame (ratE.pure _) | exact tame (spE.pure _) | exact tame (pure_lst ratE _ _) | exact tame2 (limL_pure _) rfl | exact tame2 (magL_pure _) rfl | exact tame2 (ratE.pure _) rfl | exact tame2 (magL_pure _) (magL_pure _) | exact tame3 (magL_pure _) (magL_pure _) rfl | exact tame2 rfl rfl | exact tame3 rfl rfl rfl | exact tame2 (pure_lst ratE _ _) (pure_lst ratE _ _) | exact tame2 (pure_lst ratE _ _) rfl):p:=h
theorem imZ {H:Heap}:Imm H (.agg [.v (.bool false),.list 1 [],.list 1 []]) (ratL 0):=ratL_zero ▸ .pure (ratE.pure 0)
theorem im0 {p:Prop} (h:p:=by first | exact .pure rfl | exact .pure (pure_lst u32E _ _) | exact .pure (magL_pure _) | exact .pure (ratE.pure _) | exact .pure (spE.pure _) | exact imZ | exact .pure (pure_lst ratE _ _) | exact .pure (limL_pure _) | exact .nil _ | exact .pure (pure_lst i64E _ _) | exact .pure (pure_lst spE _ _) | exact .pure (ptE.pure ⟨_,_,_⟩) | exact .pure (poE.pure _) | exact .pure (pure_lst ptE _ _) | exact .pure (pure_lst poE _ _) | exact .pure (by assumption) | exact .pure pu):p:=h
theorem im1 {p:Prop} (h:p:=by first | exact .pure rfl | exact .pure (pure_lst u32E _ _) | exact .pure (magL_pure _) | exact .pure (ratE.pure _) | exact .pure (spE.pure _) | exact .pure (pure_lst ratE _ _) | exact .pure (limL_pure _) | exact .nil _ | exact .pure (pure_lst i64E _ _) | exact .pure (pure_lst spE _ _) | exact .pure (by assumption) | exact imm_refm u32E rfl rfl (by first | rfl | omega | exact(padL_len _ _).symm | (simp;done) | (simp;omega)) | exact imm_refm ratE rfl rfl (by first | rfl | omega | exact(padL_len _ _).symm | (simp;done) | (simp;omega)) | exact imm_refT u32E rfl rfl (by first | omega | (simp;omega)) | exact imm_refT ratE rfl rfl (by first | omega | (simp;omega))):p:=h
theorem nt0 {p:Prop} (h:p:=by first | (simp;done) | exact(fun m h=>LV.noConfusion h) | exact LV.pure_ne_tup (magL_pure _) | exact LV.pure_ne_tup (ratE.pure _) | exact LV.pure_ne_tup (spE.pure _) | exact LV.pure_ne_tup (limL_pure _) | exact LV.pure_ne_tup (pure_lst ratE _ _) | exact LV.pure_ne_tup (by assumption)):p:=h
theorem ne0 {p:Prop} (h:p:=by first | exact⟨(fun h=>by cases h),(fun _ h=>by cases h)⟩ | exact⟨LV.pure_ne_any (ratE.pure _),LV.pure_ne_tup (ratE.pure _)⟩ | exact⟨LV.pure_ne_any (spE.pure _),LV.pure_ne_tup (spE.pure _)⟩ | exact⟨LV.pure_ne_any (ptE.pure _),LV.pure_ne_tup (ptE.pure _)⟩ | exact⟨LV.pure_ne_any (poE.pure _),LV.pure_ne_tup (poE.pure _)⟩ | exact⟨LV.pure_ne_any (by assumption),LV.pure_ne_tup (by assumption)⟩):p:=h
theorem shlC32 {a s:Nat} (hs:s<=32):shI .shl .u32 (a:Nat) (32-(s:Int))=some (.int .u32 ((a % 2 ^ s*2 ^ (32-s):Nat):Int)):=by
 have:=shlV32 (a:=a) (s:=32-s) J;rw [show 32-(32-s)=s by omega] at this;rwa [show (32:Int)-(s:Int)=((32-s:Nat):Int) by omega]
end Go.Lg
namespace Go.Lg
def sgI (s:Bool) (n:Nat):Int:=bif s then -(n:Int) else n
theorem sgI_zero (s:Bool):sgI s 0=0:=by cases s<;>rfl
theorem sgI_abs (s:Bool) (n:Nat):(sgI s n).natAbs=n:=by cases s<;>simp [sgI]
theorem sgI_num (q:Rat):sgI (decide (q<0)) q.num.natAbs=q.num:=by
 have h:(q<0)↔q.num<0:=by rw [<-aef,<-adn];omega
 by_cases hq:q<0
 ·have:=h.1 hq;simp only [hq,decide_true,sgI,cond_true];omega
 have h2:¬ q.num<0:=fun x=>hq (h.2 x);simp only [hq,decide_false,sgI,cond_false];omega
theorem rat_lt0 (q:Rat):(q<0)↔q.num<0:=by rw [<-aef,<-adn];omega
def qv (s:Bool) (n d:Nat):Rat:=mkRat (sgI s n) d
theorem qv_num (s:Bool) {n d:Nat} (hn:0<n) (hd:0<d):(qv s n d).num.natAbs=n/n.gcd d:=by
 rw [qv,adE,if_neg J,sgI_abs,iJ];have h:((n.gcd d:Nat):Int) ∣ sgI s n:=by
  cases s
  ·exact aas.2 (qh _ _)
  exact(Int.dvd_neg.2 (aas.2 (qh _ _)))
 rw [Int.natAbs_ediv_of_dvd h,sgI_abs];simp
theorem qv_den (s:Bool) (n:Nat) {d:Nat} (hd:0<d):(qv s n d).den=d/n.gcd d:=by
 rw [qv,Rat.den_mkRat,if_neg J,sgI_abs,iJ]
theorem qv_lt (s:Bool) {n d:Nat} (hn:0<n) (hd:0<d):decide (qv s n d<0)=s:=by
 have h1:(qv s n d).num=sgI s n/(n.gcd d:Nat):=by rw [qv,adE,if_neg J,sgI_abs,iJ]
 have hg:0<n.gcd d:=Nat.gcd_pos_of_pos_left _ hn;have h2:=qv_num s hn hd;have h3:n/n.gcd d≠0:=by
  have:=Nat.div_pos (Nat.le_of_dvd hn (qh n d)) hg;omega
 cases s
 ·have:0<=(qv false n d).num:=by rw [h1];exact acq (by simp [sgI]) J
  simp only [decide_eq_false_iff_not];rw [rat_lt0];omega
 have:(qv true n d).num<=0:=by
  rw [h1];simp only [sgI,cond_true];have cC:((n.gcd d:Nat):Int) ∣ (n:Int):=aas.2 (qh _ _);rw [Int.neg_ediv_of_dvd cC];have:=acq (a:=(n:Int)) (b:=(n.gcd d:Nat)) J J;omega
 simp only [decide_eq_true_eq];rw [rat_lt0];omega
theorem qv_zero (s:Bool) (d:Nat):qv s 0 d=0:=by rw [qv,sgI_zero,Rat.zero_mkRat]
theorem qv_den0 (s:Bool) (n:Nat):qv s n 0=0:=by rw [qv];simp
theorem qv_self (q:Rat):qv (decide (q<0)) q.num.natAbs q.den=q:=by rw [qv,sgI_num,acX]
def sgR (s:Bool) (q:Rat):Rat:=qv s q.num.natAbs q.den
theorem sgR_self (q:Rat):sgR (decide (q<0)) q=q:=qv_self q
theorem sgI_not (s:Bool) (n:Nat):sgI (!s) n=- sgI s n:=by cases s<;>simp [sgI]
theorem sgR_not (q:Rat):sgR (!decide (q<0)) q=-q:=by
 rw [sgR,qv,sgI_not,<-abf,sgI_num,acX]
theorem qv_mul (s t:Bool) (n d m e:Nat):qv s n d*qv t m e=qv (s != t) (n*m) (d*e):=by
 simp only [qv,Rat.mkRat_mul_mkRat];congr 1
 cases s<;>cases t<;>simp [sgI,Int.mul_neg,xy]
theorem qv_add_same (s:Bool) {n d m e:Nat} (hd:0<d) (he:0<e):qv s n d+qv s m e=qv s (n*e+m*d) (d*e):=by
 simp only [qv];rw [zX _ _ J J];congr 1
 cases s<;>simp [sgI,xy]<;>omega
theorem qv_add_ne (s t:Bool) {n d m e:Nat} (hd:0<d) (he:0<e) (ba:s≠t) (h:m*d<=n*e):qv s n d+qv t m e=qv s (n*e-m*d) (d*e):=by
 simp only [qv];rw [zX _ _ J J];congr 1
 cases s<;>cases t<;>simp_all [sgI,xy]<;>omega
theorem qv_add_ne' (s t:Bool) {n d m e:Nat} (hd:0<d) (he:0<e) (ba:s≠t) (h:n*e<=m*d):qv s n d+qv t m e=qv t (m*d-n*e) (d*e):=by
 simp only [qv];rw [zX _ _ J J];congr 1
 cases s<;>cases t<;>simp_all [sgI,xy]<;>omega
theorem rat_inv_neg (x:Rat):(-x)⁻¹=-x⁻¹:=ay
theorem qv_inv (s:Bool) (n d:Nat):(qv s n d)⁻¹=qv s d n:=by
 have h0:(qv false n d)⁻¹=qv false d n:=by
  simp only [qv,Rat.mkRat_eq_div,sgI,cond_false];rw [cj,Rat.inv_mul_rev,Rat.inv_inv,cj];rfl
 cases s
 ·exact h0
 have e:∀ n d:Nat,qv true n d=- qv false n d:=fun n d=>by simp only [qv,sgI,cond_true,cond_false,abf]
 rw [e,e,rat_inv_neg,h0]
theorem qv_div (s t:Bool) (n d m e:Nat):qv s n d/qv t m e=qv (s != t) (n*e) (d*m):=by
 rw [cj,qv_inv,qv_mul]
theorem qv_scale (s:Bool) {n d k:Nat} (hk:0<k):qv s (n*k) (d*k)=qv s n d:=by
 by_cases hd:d=0
 ·subst hd;simp [qv_den0]
 simp only [qv];rw [Rat.mkRat_eq_iff (by have:=eN (ll hd) hk;omega) hd]
 cases s<;>simp [sgI]<;>grind
theorem denN_eq (q:Rat):denN q=if q.den=1 then 0 else q.den:=rfl
def rl (q:Rat):Nat:=max (dig q.num.natAbs).length (dig q.den).length
theorem rl_num (q:Rat):(dig q.num.natAbs).length<=rl q:=acM _ _
theorem rl_den (q:Rat):(dig q.den).length<=rl q:=aar _ _
theorem rl_denN (q:Rat):(dig (denN q)).length<=rl q:=by
 rw [denN_eq];split
 ·simp [dig_zero]
 exact rl_den q
theorem rl_le {q:Rat} {k:Nat} (hn:q.num.natAbs<4294967296 ^ k) (hd:q.den<4294967296 ^ k):rl q<=k :=
 Nat.max_le.2 ⟨dig_length_le hn,dig_length_le hd⟩
theorem rl_lt (q:Rat):q.num.natAbs<4294967296 ^ rl q/\q.den<4294967296 ^ rl q:=⟨dig_length_ge (rl_num q),dig_length_ge (rl_den q)⟩
theorem rl_pos (q:Rat):1<=rl q:=by
 have:=rl_den q;have h:dig q.den≠[]:=fun h=>q.den_nz (dig_eq_nil.1 h);have:=List.length_pos_iff.2 h;omega
theorem rl_qv (s:Bool) {n d k:Nat} (hn:n<4294967296 ^ k) (hd:d<4294967296 ^ k):rl (qv s n d)<=max k 1:=by
 by_cases dt:d=0
 ·subst dt;rw [qv_den0];exact aw (tM (by rfl)) (aar _ _)
 by_cases dE:n=0
 ·subst dE;rw [qv_zero];exact aw (tM (by rfl)) (aar _ _)
 refine aw (rl_le (k:=k) ?_ ?_) (acM _ _)
 ·rw [qv_num s J J];exact jW (lr _ _) hn
 rw [qv_den s n J];exact jW (lr _ _) hd
theorem rl_neg (q:Rat):rl (-q)=rl q:=by simp [rl]
theorem pow_lt_add {x y a b:Nat} (hx:x<4294967296 ^ a) (hy:y<4294967296 ^ b):x*y<4294967296 ^ (a+b):=by
 rw [fh];exact Nat.mul_lt_mul'' hx hy
theorem rl_mul (a b:Rat):rl (a*b)<=rl a+rl b:=by
 have ha:=rl_lt a;have hb:=rl_lt b;have:=rl_qv (decide (a<0) != decide (b<0)) (pow_lt_add ha.1 hb.1) (pow_lt_add ha.2 hb.2);rw [<-qv_mul,qv_self,qv_self] at this;have:=rl_pos a;omega
theorem rl_div (a b:Rat):rl (a/b)<=rl a+rl b:=by
 have ha:=rl_lt a;have hb:=rl_lt b;have:=rl_qv (decide (a<0) != decide (b<0)) (pow_lt_add ha.1 hb.2) (pow_lt_add ha.2 hb.1);rw [<-qv_div,qv_self,qv_self] at this;have:=rl_pos a;omega
theorem add_pow_lt {x y k:Nat} (hx:x<4294967296 ^ k) (hy:y<4294967296 ^ k):x+y<4294967296 ^ (k+1):=by
 rw [dz];omega
theorem rl_add (a b:Rat):rl (a+b)<=rl a+rl b+1:=by
 have ha:=rl_lt a;have hb:=rl_lt b;have hd:=pow_lt_add ha.2 hb.2;have cC:a.den*b.den<4294967296 ^ (rl a+rl b+1):=aba hd (Nat.pow_lt_pow_right J J);have h1:=pow_lt_add ha.1 hb.2;have h2:=pow_lt_add ha.2 hb.1;have hs:=add_pow_lt h1 h2;have key:∀ n,n<=a.num.natAbs*b.den+a.den*b.num.natAbs->∀ s,a+b=qv s n (a.den*b.den)->rl (a+b)<=rl a+rl b+1:=by
  intro n hn s e;rw [e];have:=rl_qv s (jW hn hs) cC;omega
 rw [bz a.den b.num.natAbs] at key;by_cases ba:decide (a<0)=decide (b<0)
 ·refine key _ (an _) (decide (a<0)) ?_;have:=qv_add_same (decide (a<0)) (n:=a.num.natAbs) (m:=b.num.natAbs) a.den_pos b.den_pos;rw [<-this,qv_self,ba,qv_self]
 rcases Nat.le_total (b.num.natAbs*a.den) (a.num.natAbs*b.den) with h | h
 ·refine key (a.num.natAbs*b.den-b.num.natAbs*a.den) J (decide (a<0)) ?_;have:=qv_add_ne _ _ a.den_pos b.den_pos ba h;rw [<-this,qv_self,qv_self]
 refine key (b.num.natAbs*a.den-a.num.natAbs*b.den) J (decide (b<0)) ?_;have:=qv_add_ne' _ _ a.den_pos b.den_pos ba h;rw [<-this,qv_self,qv_self]
theorem rl_sub (a b:Rat):rl (a-b)<=rl a+rl b+1:=by
 have:=rl_add a (-b);rw [rl_neg] at this;rwa [Rat.sub_eq_add_neg]
theorem ratL_qv (s:Bool) {n d:Nat} (hn:0<n) (hd:0<d):ratL (qv s n d)=.agg [.v (.bool s),magL (n/n.gcd d),magL (if d/n.gcd d=1 then 0 else d/n.gcd d)]:=by
 rw [ratL_eq,qv_lt s hn hd,qv_num s hn hd,denN_eq,qv_den s n hd]
def cmpR (a b:Rat):Int:=if a<b then -1 else if b<a then 1 else 0
section
variable {P:Program} {H:Heap} {ρ:Operand->LV} {T:TypeId} {p x:Operand} {b i d sz:Nat} {q:Rat} {vals:List LV} {m ag:Bool} {α:Type} {e:α->LV} {a:α}
theorem OpP.ldNeg (hp:ρ p=.eptr b 3 i 0) (hb:H b=some ⟨3,vals,m⟩) (hi:vals[i]?=some (ratL q)) (hT:TyIs P T 1 false):OpP P H ρ (.load T p) (.v (.bool (decide (q<0)))):=.loadE hp hb rfl hi (ratE.csize _) (ratL_neg q) hT
theorem OpP.ldNum (hp:ρ p=.eptr b 3 i 1) (hb:H b=some ⟨3,vals,m⟩) (hi:vals[i]?=some (ratL q)) (hT:TyIs P T 1 false):OpP P H ρ (.load T p) (magL q.num.natAbs):=.loadE hp hb rfl hi (ratE.csize _) (ratL_num q) hT
theorem OpP.ldDen (hp:ρ p=.eptr b 3 i 2) (hb:H b=some ⟨3,vals,m⟩) (hi:vals[i]?=some (ratL q)) (hT:TyIs P T 1 false):OpP P H ρ (.load T p) (magL (denN q)):=.loadE hp hb rfl hi (ratE.csize _) (ratL_den q) hT
theorem OpP.ldRat (hp:ρ p=.eptr b 3 i 0) (hb:H b=some ⟨3,vals,m⟩) (hi:vals[i]?=some (ratL q)) (hT:TyIs P T 3 true):OpP P H ρ (.load T p) (ratL q):=.loadE hp hb rfl hi (ratE.csize _) (ratL_all q) hT
theorem OpA.boxE (he:EncOK e sz ag) (hx:ρ x=e a):OpA P ρ d (.box T x) (.eptr d sz 0 0) ⟨sz,[e a],true⟩:=by
 have h:=OpA.box (P:=P) (ρ:=ρ) (d:=d) (T:=T) (x:=x) (by rw [hx];exact⟨fun h=>by have:=he.pure a;rw [h] at this;simp [LV.pure] at this,LV.pure_ne_tup (he.pure a)⟩);rwa [hx,he.csize] at h
theorem OpA.allocE (he:EncOK e sz ag) (hz:ZeroOK P T (e a)):OpA P ρ d (.alloc T) (.eptr d sz 0 0) ⟨sz,[e a],true⟩:=by
 have h:=OpA.alloc (ρ:=ρ) (d:=d) hz;rwa [he.csize] at h
end
section
variable {P:Program} {L:St} {dst:Option Nat} {T:TypeId} {p x:Operand} {b:Nat} {q:Rat} {zs:List LV}
theorem OpT.stRat (hp:L.ev p=.eptr b 3 0 0) (hb:L.heap b=some ⟨3,[.agg zs],true⟩) (hz:csizes zs=3) (hx:L.ev x=ratL q) (hT:TyIs P T 3 true) :
  OpT P L dst (.store T p x) ((L.setB b (some ⟨3,[ratL q],true⟩)).put dst .any):=by
 have h:=OpT.store (P:=P) (dst:=dst) (T:=T) (p:=p) (x:=x) (y:=.agg zs) (y':=ratL q) hp hb rfl rfl rfl (by simp [LV.csize,hz])
  (by rw [hx];simp [LV.put,hz,ratE.csize,ratE.isAgg]) (by rw [hx,ratE.csize,ratE.isAgg];exact hT)
  (by rw [hx];exact⟨fun h=>by have:=ratE.pure q;rw [h] at this;simp [LV.pure] at this,LV.pure_ne_tup (ratE.pure q)⟩)
 exact h
end
section
variable {P:Program} {H:Heap} {ρ:Operand->LV} {T:TypeId} {p x y:Operand} {b i d sz:Nat} {s:Rat × Rat} {vals:List LV} {m ag:Bool} {q r:Rat}
theorem OpP.ldLo (hp:ρ p=.eptr b 6 i 0) (hb:H b=some ⟨6,vals,m⟩) (hi:vals[i]?=some (spL s)) (hT:TyIs P T 3 true):OpP P H ρ (.load T p) (ratL s.1):=.loadE hp hb rfl hi (spE.csize _) (spL_lo s) hT
theorem OpP.ldHi (hp:ρ p=.eptr b 6 i 3) (hb:H b=some ⟨6,vals,m⟩) (hi:vals[i]?=some (spL s)) (hT:TyIs P T 3 true):OpP P H ρ (.load T p) (ratL s.2):=.loadE hp hb rfl hi (spE.csize _) (spL_hi s) hT
theorem OpP.ldSp (hp:ρ p=.eptr b 6 i 0) (hb:H b=some ⟨6,vals,m⟩) (hi:vals[i]?=some (spL s)) (hT:TyIs P T 6 true):OpP P H ρ (.load T p) (spL s):=.loadE hp hb rfl hi (spE.csize _) (spL_all s) hT
theorem OpP.buildSp (hT:StructLay P T [(3,true),(3,true)]) (hz:ZeroOK P T (.agg [ratL 0,ratL 0])) (hx:ρ x=ratL q) (hy:ρ y=ratL r):OpP P H ρ (.build T #[(0,x),(1,y)]) (spL (q,r)):=by
 have:=OpP.build (P:=P) (H:=H) (ρ:=ρ) (T:=T) (ps:=#[(0,x),(1,y)]) (zs:=[ratL 0,ratL 0]) (by simpa [lay,ratE.csize,ratE.isAgg] using hT) hz (by
  simp only [List.forall_mem_cons];exact⟨⟨_,rfl,by simp [lay,hx,ratE.csize,ratE.isAgg],by rw [hx];exact⟨LV.pure_ne_any (ratE.pure _),LV.pure_ne_tup (ratE.pure _)⟩⟩,⟨_,rfl,by simp [lay,hy,ratE.csize,ratE.isAgg],by rw [hy];exact⟨LV.pure_ne_any (ratE.pure _),LV.pure_ne_tup (ratE.pure _)⟩⟩,fun _ h=>by cases h⟩)
 rw [spL_eq];simpa [buildL,hx,hy] using this
theorem OpT.stSp {L:St} {dst:Option Nat} {s0:Rat × Rat} (hp:L.ev p=.eptr b 6 0 0) (hb:L.heap b=some ⟨6,[spL s0],true⟩) (hx:L.ev x=spL s) (hT:TyIs P T 6 true) :
  OpT P L dst (.store T p x) ((L.setB b (some ⟨6,[spL s],true⟩)).put dst .any):=by
 have h0:LV.put (spL s0) 0 (L.ev x)=some (spL s):=by
  rw [hx,spL_eq s0];simp [LV.put,spE.csize,spE.isAgg,csizes,LV.csize,ratE.csize]
 have h:=OpT.store (P:=P) (dst:=dst) (T:=T) (p:=p) (x:=x) (y:=spL s0) (y':=spL s) hp hb rfl rfl rfl (spE.csize _) h0 (by rw [hx,spE.csize,spE.isAgg];exact hT)
  (by rw [hx];exact⟨LV.pure_ne_any (spE.pure s),LV.pure_ne_tup (spE.pure s)⟩)
 exact h
end
theorem imm_refS {L:St} {α:Type} {e:α->LV} {ag:Bool} {bs:List Nat} {b sz off len:Nat} {l l':List α} {m:Bool} (he:EncOK e sz ag) (hb:L.heap b=some ⟨sz,l.map e,m⟩) (kF:bs.contains b=true) (hl:off+len<=l.length) (h:(l.drop off).take len=l') :
  Imm (L.frz bs).heap (.ref b sz off len) (.list sz (l'.map e)):=by
 have:=imm_ref (L:=L) (bs:=bs) (off:=off) (len:=len) hb kF (pures_map he l) (by simpa using hl);rwa [<-List.map_drop,<-lY,h] at this
theorem max_abs {n:Int} (h1:-9223372036854775808<n) (h2:n<=9223372036854775807):(if IntKind.i64.wrap (0-n) > n then IntKind.i64.wrap (0-n) else n)=((n.natAbs:Nat):Int):=by
 rw [IntWalk.i64_in _ J];split<;>omega
theorem qv_int (n:Int):qv (decide (n<0)) n.natAbs 1=(n:Rat):=by
 have:sgI (decide (n<0)) n.natAbs=n:=by
  by_cases h:n<0
  ·simp only [h,decide_true,sgI,cond_true];omega
  simp only [h,decide_false,sgI,cond_false];omega
 rw [qv,this,Rat.mkRat_one]
theorem qv_ints (n d:Int):qv (decide (n<0) != decide (d<0)) n.natAbs d.natAbs=(n:Rat)/(d:Rat):=by
 rw [<-qv_int n,<-qv_int d,qv_div];simp
theorem sm_den {q:Rat} (h:q.den<4294967296):(dig (denN q)).length<=1:=dig_len_le1.2 (by rw [denN_eq];split<;>omega)
theorem denN_pos {q:Rat} (h:0<(dig (denN q)).length):denN q=q.den:=by
 rw [denN_eq] at h ⊢;split
 ·rename_i h1;rw [if_pos h1] at h;simp [dig_zero] at h
 rfl
theorem denN_zero {q:Rat} (h:(dig (denN q)).length=0):q.den=1:=by
 have h0:=dig_eq_nil.1 (List.eq_nil_of_length_eq_zero h);rw [denN_eq] at h0;have:=q.den_pos;split at h0
 ·assumption
 omega
def smB (q:Rat):Bool:=decide (q.num.natAbs<4294967296/\q.den<4294967296)
def pN (q:Rat):Nat:=if smB q then q.num.natAbs else 0
def pD (q:Rat):Nat:=if smB q then q.den else 0
def sgnR (a:Rat):Int:=if a=0 then 0 else if a<0 then -1 else 1
theorem sgnR_eq (q:Rat):sgnR q=if q.num.natAbs=0 then 0 else if q<0 then -1 else 1:=by
 unfold sgnR;by_cases h:q=0
 ·subst h;rfl
 have:¬ q.num.natAbs=0:=fun h2=>h (Rat.num_eq_zero.1 J);rw [if_neg h,if_neg this]
def putd (l:List Nat) (off n:Nat):List Nat:=if n<4294967296 then l.set off n else(l.set off (n % 4294967296)).set (off+1) (n/4294967296)
def dlen (n:Nat):Nat:=if n<4294967296 then 1 else 2
theorem dig_dlen {n:Nat} (h0:0<n) (h:n<18446744073709551616):(n<4294967296/\dlen n=1/\dig n=[n])\/(4294967296<=n/\dlen n=2/\dig n=[n % 4294967296,n/4294967296]):=by
 by_cases hn:n<4294967296
 ·exact .inl ⟨hn,by simp [dlen,hn],dig_small h0 hn⟩
 refine .inr ⟨J,by simp [dlen,hn],?_⟩;rw [dig_pos h0,dig_small J J]
theorem short_one {n:Nat} (h0:0<n) (h:n<18446744073709551616):((putd [0,0,0,0] 0 n).drop 0).take (dlen n)=dig n:=by
 rcases dig_dlen h0 h with⟨h1,h2,h3⟩ | ⟨h1,h2,h3⟩
 ·rw [h2,h3];simp [putd,h1]
 rw [h2,h3];simp [putd,aaH.2 h1]
theorem short_two {n d:Nat} (h0:0<n) (h:n<18446744073709551616) (g0:0<d) (g:d<18446744073709551616) :
  ((putd (putd [0,0,0,0] 0 n) (dlen n) d).drop 0).take (dlen n)=dig n/\((putd (putd [0,0,0,0] 0 n) (dlen n) d).drop (dlen n)).take (dlen d)=dig d:=by
 rcases dig_dlen h0 h with⟨h1,h2,h3⟩ | ⟨h1,h2,h3⟩<;>rcases dig_dlen g0 g with⟨g1,g2,g3⟩ | ⟨g1,g2,g3⟩<;>rw [h2,h3,g2,g3]<;>simp [putd, *,aaH.2]
theorem putd_len (l:List Nat) (off n:Nat):(putd l off n).length=l.length:=by unfold putd;split<;>simp
section
variable {P:Program} {ρ:Operand->LV} {α:Type} {e:α->LV}
theorem OpA.lit3 {T E:TypeId} {x y w:Operand} {d sz:Nat} {ag:Bool} {z a b c:α} (he:EncOK e sz ag) (hT:P.underlying T=some (.slice E)) (hz:ZeroOK P E (e z)) (hE:TyIs P E sz ag) (hx:ρ x=e a) (hy:ρ y=e b) (hw:ρ w=e c) (aT:0<sz) (dj:sz<=1000) :
  OpA P ρ d (.buildSlice T 3 #[(0,x),(1,y),(2,w)]) (.ref d sz 0 3) ⟨sz,[a,b,c].map e,true⟩:=by
 have ak:∀ v,ρ v=e a\/ρ v=e b\/ρ v=e c->lay (ρ v)=lay (e z)/\ρ v≠.any/\∀ m,ρ v≠.tup m:=by
  rintro v (h | h | h)<;>rw [h]<;>exact⟨by simp [lay,he.csize,he.isAgg],LV.pure_ne_any (he.pure _),LV.pure_ne_tup (he.pure _)⟩
 have:=OpA.lit (P:=P) (ρ:=ρ) (d:=d) (T:=T) (n:=3) (ps:=#[(0,x),(1,y),(2,w)]) hT hz (by rw [he.isAgg];exact hE) (he.csize z) J J aT (by
  intro p hp;simp only [bp,cN,or_false] at hp;rcases hp with rfl | rfl | rfl
  ·exact⟨by show 0<3;omega,ak x (.inl hx)⟩
  ·exact⟨by show 1<3;omega,ak y (.inr (.inl hy))⟩
  exact⟨by show 2<3;omega,ak w (.inr (.inr hw))⟩)
 simpa [buildL,hx,hy,hw,ai] using this
theorem OpA.lit4 {T E:TypeId} {x y w z':Operand} {d sz:Nat} {ag:Bool} {z a b c f:α} (he:EncOK e sz ag) (hT:P.underlying T=some (.slice E)) (hz:ZeroOK P E (e z)) (hE:TyIs P E sz ag) (hx:ρ x=e a) (hy:ρ y=e b) (hw:ρ w=e c) (hf:ρ z'=e f) (aT:0<sz) (dj:sz<=1000) :
  OpA P ρ d (.buildSlice T 4 #[(0,x),(1,y),(2,w),(3,z')]) (.ref d sz 0 4) ⟨sz,[a,b,c,f].map e,true⟩:=by
 have ak:∀ v,ρ v=e a\/ρ v=e b\/ρ v=e c\/ρ v=e f->lay (ρ v)=lay (e z)/\ρ v≠.any/\∀ m,ρ v≠.tup m:=by
  rintro v (h | h | h | h)<;>rw [h]<;>exact⟨by simp [lay,he.csize,he.isAgg],LV.pure_ne_any (he.pure _),LV.pure_ne_tup (he.pure _)⟩
 have:=OpA.lit (P:=P) (ρ:=ρ) (d:=d) (T:=T) (n:=4) (ps:=#[(0,x),(1,y),(2,w),(3,z')]) hT hz (by rw [he.isAgg];exact hE) (he.csize z) J J aT (by
  intro p hp;simp only [bp,cN,or_false] at hp;rcases hp with rfl | rfl | rfl | rfl
  ·exact⟨by show 0<4;omega,ak x (.inl hx)⟩
  ·exact⟨by show 1<4;omega,ak y (.inr (.inl hy))⟩
  ·exact⟨by show 2<4;omega,ak w (.inr (.inr (.inl hw)))⟩
  exact⟨by show 3<4;omega,ak z' (.inr (.inr (.inr hf)))⟩)
 simpa [buildL,hx,hy,hw,hf,ai] using this
end
theorem wl_weak {P:Program} {L L0:St} {c:Code} {Q:LEx->St->Prop} (hw:Weak L L0) (h:wpL P (.loop c) Q L0):wpL P (.loop c) Q L:=by
 intro I hI;obtain⟨L1,h1,h2⟩:=h I hI;exact⟨L1,hw.trans h1,h2⟩
section
variable {P:Program} {ops:Array Oper} {D:Array Bool} {L:St} {K:St->Prop} {fuel:Nat}
theorem any_0 (hr:Region.ready .any ops D=[]) (k:K L):anyL P ops fuel D L K:=by
 cases fuel with
 | zero=>exact⟨hr,k⟩
 | succ n=>exact⟨fun _=>k,fun i hi=>by rw [hr] at hi;cases hi⟩
theorem any_1 (i:Nat) (o:Oper) (hr:Region.ready .any ops D=[i]) (ho:ops[i]?=some o) (h:opsL P false ops [o] L (fun L'=>anyL P ops fuel (D.setIfInBounds i true) L' K)):anyL P ops (fuel+1) D L K:=by
 refine⟨fun e=>(by rw [hr] at e;cases e),fun j hj=>?_⟩;rw [hr,List.mem_singleton] at hj;subst hj;obtain⟨L',h1,h2⟩:=h;exact⟨o,L',ho,h1,h2⟩
theorem any_2 (i j:Nat) (o o2:Oper) (hr:Region.ready .any ops D=[i,j]) (ho:ops[i]?=some o) (pF:ops[j]?=some o2) (h:opsL P false ops [o] L (fun L'=>anyL P ops fuel (D.setIfInBounds i true) L' K))
  (h2:opsL P false ops [o2] L (fun L'=>anyL P ops fuel (D.setIfInBounds j true) L' K)):anyL P ops (fuel+1) D L K:=by
 refine⟨fun e=>(by rw [hr] at e;cases e),fun x hx=>?_⟩;rw [hr] at hx;simp only [bp,cN,or_false] at hx;rcases hx with rfl | rfl
 ·obtain⟨L',h1,h3⟩:=h;exact⟨o,L',ho,h1,h3⟩
 obtain⟨L',h1,h3⟩:=h2;exact⟨o2,L',pF,h1,h3⟩
end
class UN (P:Program) (T:TypeId) (d:outParam TypeDesc):Prop where
 h:P.underlying T=some d
class TI (P:Program) (T:TypeId) (sz:outParam Nat) (ag:outParam Bool):Prop where
 h:TyIs P T sz ag
class SI (P:Program) (T:TypeId) (l:outParam (List (Nat × Bool))):Prop where
 h:StructLay P T l
class BI (P:Program) (T:TypeId) (n:outParam Nat):Prop where
 h:TyBytes P T n
class ZI (P:Program) (T:TypeId) (z:outParam LV):Prop where
 h:ZeroOK P T z
class EC (P:Program) (T:TypeId) {α:outParam Type} (e:outParam (α->LV)) (sz:outParam Nat) (ag:outParam Bool) (z:outParam α):Prop where
 h:EncOK e sz ag
 z:ZeroOK P T (e z)
 t:TyIs P T sz ag
class AE (P:Program) (T:TypeId) {α:outParam Type} (e:outParam (α->LV)) (sz:outParam Nat) (ag:outParam Bool) (z:outParam α):Prop where
 h:EncOK e sz ag
 z:ZeroOK P T (e z)
theorem zHs {p:Prop} (h:p:=by first | (simp only [hce,l1,t0,t1,dflt,val_dig];exact rfl) | exact rfl):p:=h
theorem ex_eq {S:St->St} {L L1:St} (h:S L1=L):∃ L1,Weak L (S L1):=⟨L1,Weak.of_eq h⟩
def cmpOp:BinOp->Bool
 | .eql | .neq | .lss | .leq | .gtr | .geq=>true
 | _=>false
section
variable {P:Program} {H:Heap} {ρ:Operand->LV} {α:Type} {e:α->LV} {sz:Nat} {ag:Bool} {z a:α} {T E:TypeId} {p x i:Operand} {L L0:St} {Q:LEx->St->Prop} {K:St->Prop}
theorem OpP.ldB [c:EC P T e sz ag z] (hp:ρ p=.boxp (e a)):OpP P H ρ (.load T p) (e a):=.loadBm c.h hp c.t
theorem OpP.ldE [Inhabited α] [c:EC P T e sz ag z] {b i:Nat} {l:List α} {m:Bool} (hp:ρ p=.eptr b sz i 0) (hb:H b=some ⟨sz,l.map e,m⟩) (hi:i<l.length):OpP P H ρ (.load T p) (e (l.getD i default)):=.loadEm c.h hp hb c.t hi
theorem OpP.ixL [Inhabited α] [u:UN P T (.slice E)] [c:EC P E e sz ag z] {l:List α} {k:IntKind} {n:Int} (hx:ρ x=.list sz (l.map e)) (hi:ρ i=.v (.int k n)) (h0:0<=n) (hn:n<l.length) :
  OpP P H ρ (.indexAddr T x i) (.boxp (e (l.getD n.toNat default))):=.idxLm c.h hx u.h c.t hi h0 hn
theorem OpP.ixR [u:UN P T (.slice E)] [c:TI P E sz ag] {b off len:Nat} {k:IntKind} {n:Int} (hx:ρ x=.ref b sz off len) (hi:ρ i=.v (.int k n)) (h0:0<=n) (hn:n<len) :
  OpP P H ρ (.indexAddr T x i) (.eptr b sz (off+n.toNat) 0):=.idxR hx u.h c.h hi h0 hn
theorem OpP.cmp {op:BinOp} {U:TypeId} {y:Operand} {k:IntKind} {a b:Int} {r:Value} (hc:cmpOp op=true) (hx:ρ x=.v (.int k a)) (hy:ρ y=.v (.int k b)) (h:binI op k a b=some r):OpP P H ρ (.binOp op T x y U) (.v r):=.bin hx hy h
theorem OpT.stE [Inhabited α] [c:EC P T e sz ag z] {dst:Option Tmp} {b i:Nat} {l:List α} (hp:L.ev p=.eptr b sz i 0) (hb:L.heap b=some ⟨sz,l.map e,true⟩) (hx:L.ev x=e a) (hi:i<l.length) :
  OpT P L dst (.store T p x) ((L.setB b (some ⟨sz,(l.set i a).map e,true⟩)).put dst .any):=.storeM c.h hp hb hx c.t hi
theorem OpA.mkE {bu:Nat} [u:UN P T (.slice E)] [c:EC P E e sz ag z] [b:BI P E bu] {d n m:Nat} {kl kc:IntKind} (hl:ρ x=.v (.int kl (n:Nat))) (hc:ρ i=.v (.int kc (m:Nat))) (dR:n<=m) (hm:bu*m<=281474976710656) (cL:m<=9223372036854775807) :
  OpA P ρ d (.makeSlice T x i) (.ref d sz 0 n) ⟨sz,(ai n z).map e,true⟩:=.makeM c.h u.h c.z c.t b.h hl hc dR hm cL
theorem OpA.bxE [c:EC P T e sz ag z] {d:Nat} (hx:ρ x=e a):OpA P ρ d (.box T x) (.eptr d sz 0 0) ⟨sz,[e a],true⟩:=.boxE c.h hx
theorem wl_if {c:Operand} {x y:Code} {t:Bool} {u v:Prop} (hc:L.ev c=.v (.bool t)) (h1:t=true->u->wpL P x Q L) (h2:t=false->v->wpL P y Q L)
  (e1:(t=true)=u:=by exact zHs) (e2:(t=false)=v:=by exact zHs):wpL P (.cond c x y) Q L:=wl_cond hc (fun h=>h1 h (e1 ▸ h)) (fun h=>h2 h (e2 ▸ h))
theorem OpA.alE [c:AE P T e sz ag z] {d:Nat}:OpA P ρ d (.alloc T) (.eptr d sz 0 0) ⟨sz,[e z],true⟩:=.allocE c.h c.z
theorem OpA.l0 [u:UN P T (.slice E)] [t:TI P E sz ag] {d:Nat}:OpA P ρ d (.buildSlice T 0 #[]) (.ref d sz 0 0) ⟨sz,[],true⟩:=.lit0 u.h t.h
theorem OpA.l1 [u:UN P T (.slice E)] [c:EC P E e sz ag z] {d:Nat} {x0:Operand} {a0:α} (h0:ρ x0=e a0) (aT:0<sz:=by decide) (dj:sz<=1000:=by decide):OpA P ρ d (.buildSlice T 1 #[(0,x0)]) (.ref d sz 0 1) ⟨sz,[a0].map e,true⟩:=.lit1 c.h u.h c.z c.t h0 aT dj
theorem OpA.l2 [u:UN P T (.slice E)] [c:EC P E e sz ag z] {d:Nat} {x0 x1:Operand} {a0 a1:α} (h0:ρ x0=e a0) (h1:ρ x1=e a1) (aT:0<sz:=by decide) (dj:sz<=1000:=by decide):OpA P ρ d (.buildSlice T 2 #[(0,x0),(1,x1)]) (.ref d sz 0 2) ⟨sz,[a0,a1].map e,true⟩:=.lit2 c.h u.h c.z c.t h0 h1 aT dj
theorem OpA.l3 [u:UN P T (.slice E)] [c:EC P E e sz ag z] {d:Nat} {x0 x1 x2:Operand} {a0 a1 a2:α} (h0:ρ x0=e a0) (h1:ρ x1=e a1) (h2:ρ x2=e a2) (aT:0<sz:=by decide) (dj:sz<=1000:=by decide):OpA P ρ d (.buildSlice T 3 #[(0,x0),(1,x1),(2,x2)]) (.ref d sz 0 3) ⟨sz,[a0,a1,a2].map e,true⟩:=.lit3 c.h u.h c.z c.t h0 h1 h2 aT dj
theorem op_if {dr:Bool} {ops:Array Oper} {l:List Oper} (d:Nat) {b:Bool} {u v:Prop} (h:L.slot d=.v (.bool b)) (ht:b=true->u->opsL P dr ops l L K) (hf:b=false->v->opsL P dr ops l L K)
  (e1:(b=true)=u:=by exact zHs) (e2:(b=false)=v:=by exact zHs):opsL P dr ops l L K:=opsL_split h (fun h=>ht h (e1 ▸ h)) (fun h=>hf h (e2 ▸ h))
theorem OpP.bd {zs:List LV} {l:List (Nat × Bool)} {ps:Array (Nat × Operand)} [z:ZI P T (.agg zs)] [s:SI P T l] (h:zs.map lay=l) (hp:∀ p∈ps.toList,∃ z,zs[p.1]?=some z/\lay (ρ p.2)=lay z/\ρ p.2≠.any/\∀ m,ρ p.2≠.tup m) :
  OpP P H ρ (.build T ps) (.agg (buildL zs (ps.toList.map fun p=>(p.1,ρ p.2)))):=.build (h ▸ s.h) z.h hp
end
def mS (L:St) (h:List (Nat × Blk)):List (Nat × LV)->St
 | []=>St.mk L.slot (hp h)
 | (t,x) :: r=>(mS L h r).put (some t) x
theorem ms1 (L:St) (h:List (Nat × Blk)):mS L h []=St.mk L.slot (hp h):=rfl
theorem ms2 (L:St) (h:List (Nat × Blk)) (t:Nat) (x:LV) (r:List (Nat × LV)):mS L h ((t,x) :: r)=(mS L h r).put (some t) x:=rfl
theorem sNF:type_of% (aF @ms1 (aF @ms2 (aF @e1 ( aF @e2 ( aF @e3 ( aF @e4 ( aF @p1 ( aF @p2 ( aF @p3 ( aF @q1 ( aF @q2 ( aF @q3 ( aF @l1 ( aF @t0 ( aF @t1 ( aF @r1 ( aF @r2 ( aF @r3 ( aF @r4 ( aF @b1 ( aF @b2 ( aF @b3 ( aF @b4 ( aF @b5 ( aF @b6 ( aF @i1 ( aF @i2 ( aF @i3 ( aF @i4 ( aF @i5 ( aF @i6 (cJ)))))))))))))))))))))))))))))))):=aF @ms1 (aF @ms2 (aF @e1 ( aF @e2 ( aF @e3 ( aF @e4 ( aF @p1 ( aF @p2 ( aF @p3 ( aF @q1 ( aF @q2 ( aF @q3 ( aF @l1 ( aF @t0 ( aF @t1 ( aF @r1 ( aF @r2 ( aF @r3 ( aF @r4 ( aF @b1 ( aF @b2 ( aF @b3 ( aF @b4 ( aF @b5 ( aF @b6 ( aF @i1 ( aF @i2 ( aF @i3 ( aF @i4 ( aF @i5 ( aF @i6 (cJ)))))))))))))))))))))))))))))))
namespace H0
theorem zSm {p q:Prop} (k:q) (e:p=q:=by simp only [sNF,ar,au,aq];exact rfl):p:=e.mpr k
end H0
theorem om {p:Prop} (h:p:=by first | (refine zSm ?_;omega) | omega):p:=h
theorem nf {p:Prop} (h:p:=by first | (refine zSm ?_;exact rfl) | exact rfl):p:=h
theorem cl {p:Prop} (h:p:=by first | rfl | (refine zSm ?_;first | exact trivial | rfl | (congr 3<;>omega) | (congr 2<;>omega))):p:=h
theorem ml {p:Prop} (h:p:=by first | rfl | (refine zSm ?_;first | exact trivial | rfl | (congr 2<;>omega))):p:=h
theorem nt1:(!true)=false:=rfl
theorem as0 {p:Prop} (h:p:=by first | assumption | with_reducible rfl | with_reducible exact nt1 | with_reducible exact nt2):p:=h
theorem gd {p:Prop} (h:p:=by first | exact rfl | exact guardX (v:=true) rfl rfl as0 rfl | exact guardX (v:=false) rfl rfl as0 rfl):p:=h
theorem nes {p:Prop} (h:p:=by first | (intro p hp;cases hp;done) | (simp only [List.forall_mem_cons];first | exact⟨⟨_,rfl,rfl,ne0⟩,fun _ h=>by cases h⟩ | exact⟨⟨_,rfl,rfl,ne0⟩,⟨_,rfl,rfl,ne0⟩,fun _ h=>by cases h⟩ | exact⟨⟨_,rfl,rfl,ne0⟩,⟨_,rfl,rfl,ne0⟩,⟨_,rfl,rfl,ne0⟩,fun _ h=>by cases h⟩ | exact⟨⟨_,rfl,rfl,ne0⟩,⟨_,rfl,rfl,ne0⟩,⟨_,rfl,rfl,ne0⟩,⟨_,rfl,rfl,ne0⟩,fun _ h=>by cases h⟩)):p:=h
theorem am1 {p:Prop} (h:p:=by exact .cons im0 .nil):p:=h
theorem am2 {p:Prop} (h:p:=by exact .cons im0 (.cons im0 .nil)):p:=h
theorem am3 {p:Prop} (h:p:=by exact .cons im0 (.cons im0 (.cons im0 .nil))):p:=h
theorem am4 {p:Prop} (h:p:=by exact .cons im0 (.cons im0 (.cons im0 (.cons im0 .nil)))):p:=h
theorem am5 {p:Prop} (h:p:=by exact .cons im0 (.cons im0 (.cons im0 (.cons im0 (.cons im0 .nil))))):p:=h
theorem am0 {p:Prop} (h:p:=by exact .nil):p:=h
theorem fm1 {p:Prop} (h:p:=by exact .cons im1 .nil):p:=h
section
variable {P:Program} {dr:Bool} {ops:Array Oper} {rest:List Oper} {L:St} {K:St->Prop} {dst:Option Tmp} {ty:TypeId} {pos:String} {af:Array Edge} {g:Option (Nat × Bool)}
theorem cp {f:FuncId} {xs:Array Operand} {as:Array TypeId} {args:List LV} {r:LV} (ha:ImmL L.heap (xs.toList.map L.ev) args) (hk:CallP P f args r) (k:opsL P dr ops rest (L.put dst r) K)
  (hg:GuardIs ops L ⟨dst,.call ⟨.value (.func f),xs,as⟩,ty,pos,af,g⟩ true:=by exact gd):opsL P dr ops (⟨dst,.call ⟨.value (.func f),xs,as⟩,ty,pos,af,g⟩ :: rest) L K:=st_callP hg ha hk k
theorem cpf {f:FuncId} {xs:Array Operand} {as:Array TypeId} {args:List LV} {r:LV} (bs:List Nat) (ha:ImmL (L.frz bs).heap (xs.toList.map L.ev) args) (hk:CallP P f args r) (k:opsL P dr ops rest ((L.frz bs).put dst r) K)
  (hg:GuardIs ops L ⟨dst,.call ⟨.value (.func f),xs,as⟩,ty,pos,af,g⟩ true:=by exact gd) (h0:bs.contains 0=false:=by exact rfl):opsL P dr ops (⟨dst,.call ⟨.value (.func f),xs,as⟩,ty,pos,af,g⟩ :: rest) L K:=st_callPf bs hg h0 ha hk k
end
def Nx1 {α:Type} (S:α->St->St) (C:α->Prop) (μ:α->Nat) (a:α) (L:St):Prop:=∃ a' L2,C a'/\μ a'<μ a/\Weak L (S a' L2)
theorem lp1 {α:Type} {P:Program} {Q:LEx->St->Prop} {L:St} {k:Code} (S:α->St->St) (C:α->Prop) (μ:α->Nat) (a:α) (hC:C a) (hr:∀ a' L1,C a'->wpL P k (thenL (Nx1 S C μ a') Q) (S a' L1))
  (h0:∃ L1,Weak L (S a L1):=by apply ex_eq;repeat (first | exact mk_id' cl | refine put_id' ?_ cl)):wpL P (.loop k) Q L:=by
 refine wl_loop (α:=α) (fun x=>S x) (fun x=>C x) (fun x=>μ x) a hC h0 ?_;rintro a' L1 hc;refine wpL_mono (fun e L h=>?_) (hr a' L1 hc)
 cases e with
 | normal =>
  obtain⟨a1,L2,h1,h2,h3⟩:=h;exact⟨a1,L2,h1,h2,h3⟩
 | exit i=>exact h
 | ret=>exact h
theorem nx1 {α:Type} {S:α->St->St} {C:α->Prop} {μ:α->Nat} {a:α} {L L2:St} (a':α) (hc:C a') (hm:μ a'<μ a:=by omega) (he:Weak L (S a' L2):=by apply Weak.of_eq;repeat (first | exact mk_id' cl | refine put_id' ?_ cl)):Nx1 S C μ a L:=⟨a',L2,hc,hm,he⟩
def Nx2 {α β:Type} (S:α->β->St->St) (C:α->β->Prop) (μ:α->β->Nat) (a:α) (b:β) (L:St):Prop:=∃ a' b' L2,C a' b'/\μ a' b'<μ a b/\Weak L (S a' b' L2)
theorem lp2 {α β:Type} {P:Program} {Q:LEx->St->Prop} {L:St} {k:Code} (S:α->β->St->St) (C:α->β->Prop) (μ:α->β->Nat) (a:α) (b:β) (hC:C a b) (hr:∀ a' b' L1,C a' b'->wpL P k (thenL (Nx2 S C μ a' b') Q) (S a' b' L1))
  (h0:∃ L1,Weak L (S a b L1):=by apply ex_eq;repeat (first | exact mk_id' cl | refine put_id' ?_ cl)):wpL P (.loop k) Q L:=by
 refine wl_loop (α:=α × β) (fun x=>S x.1 x.2) (fun x=>C x.1 x.2) (fun x=>μ x.1 x.2) (a,b) hC h0 ?_;rintro⟨a',b'⟩ L1 hc;refine wpL_mono (fun e L h=>?_) (hr a' b' L1 hc)
 cases e with
 | normal =>
  obtain⟨a1,b1,L2,h1,h2,h3⟩:=h;exact⟨(a1,b1),L2,h1,h2,h3⟩
 | exit i=>exact h
 | ret=>exact h
theorem nx2 {α β:Type} {S:α->β->St->St} {C:α->β->Prop} {μ:α->β->Nat} {a:α} {b:β} {L L2:St} (a':α) (b':β) (hc:C a' b') (hm:μ a' b'<μ a b:=by omega) (he:Weak L (S a' b' L2):=by apply Weak.of_eq;repeat (first | exact mk_id' cl | refine put_id' ?_ cl)):Nx2 S C μ a b L:=⟨a',b',L2,hc,hm,he⟩
def Nx3 {α β γ:Type} (S:α->β->γ->St->St) (C:α->β->γ->Prop) (μ:α->β->γ->Nat) (a:α) (b:β) (c:γ) (L:St):Prop:=∃ a' b' c' L2,C a' b' c'/\μ a' b' c'<μ a b c/\Weak L (S a' b' c' L2)
theorem lp3 {α β γ:Type} {P:Program} {Q:LEx->St->Prop} {L:St} {k:Code} (S:α->β->γ->St->St) (C:α->β->γ->Prop) (μ:α->β->γ->Nat) (a:α) (b:β) (c:γ) (hC:C a b c) (hr:∀ a' b' c' L1,C a' b' c'->wpL P k (thenL (Nx3 S C μ a' b' c') Q) (S a' b' c' L1))
  (h0:∃ L1,Weak L (S a b c L1):=by apply ex_eq;repeat (first | exact mk_id' cl | refine put_id' ?_ cl)):wpL P (.loop k) Q L:=by
 refine wl_loop (α:=α × β × γ) (fun x=>S x.1 x.2.1 x.2.2) (fun x=>C x.1 x.2.1 x.2.2) (fun x=>μ x.1 x.2.1 x.2.2) (a,b,c) hC h0 ?_;rintro⟨a',b',c'⟩ L1 hc;refine wpL_mono (fun e L h=>?_) (hr a' b' c' L1 hc)
 cases e with
 | normal =>
  obtain⟨a1,b1,c1,L2,h1,h2,h3⟩:=h;exact⟨(a1,b1,c1),L2,h1,h2,h3⟩
 | exit i=>exact h
 | ret=>exact h
theorem nx3 {α β γ:Type} {S:α->β->γ->St->St} {C:α->β->γ->Prop} {μ:α->β->γ->Nat} {a:α} {b:β} {c:γ} {L L2:St} (a':α) (b':β) (c':γ) (hc:C a' b' c') (hm:μ a' b' c'<μ a b c:=by omega) (he:Weak L (S a' b' c' L2):=by apply Weak.of_eq;repeat (first | exact mk_id' cl | refine put_id' ?_ cl)):Nx3 S C μ a b c L:=⟨a',b',c',L2,hc,hm,he⟩
def Nx4 {α β γ δ:Type} (S:α->β->γ->δ->St->St) (C:α->β->γ->δ->Prop) (μ:α->β->γ->δ->Nat) (a:α) (b:β) (c:γ) (d:δ) (L:St):Prop:=∃ a' b' c' d' L2,C a' b' c' d'/\μ a' b' c' d'<μ a b c d/\Weak L (S a' b' c' d' L2)
theorem lp4 {α β γ δ:Type} {P:Program} {Q:LEx->St->Prop} {L:St} {k:Code} (S:α->β->γ->δ->St->St) (C:α->β->γ->δ->Prop) (μ:α->β->γ->δ->Nat) (a:α) (b:β) (c:γ) (d:δ) (hC:C a b c d) (hr:∀ a' b' c' d' L1,C a' b' c' d'->wpL P k (thenL (Nx4 S C μ a' b' c' d') Q) (S a' b' c' d' L1))
  (h0:∃ L1,Weak L (S a b c d L1):=by apply ex_eq;repeat (first | exact mk_id' cl | refine put_id' ?_ cl)):wpL P (.loop k) Q L:=by
 refine wl_loop (α:=α × β × γ × δ) (fun x=>S x.1 x.2.1 x.2.2.1 x.2.2.2) (fun x=>C x.1 x.2.1 x.2.2.1 x.2.2.2) (fun x=>μ x.1 x.2.1 x.2.2.1 x.2.2.2) (a,b,c,d) hC h0 ?_;rintro⟨a',b',c',d'⟩ L1 hc;refine wpL_mono (fun e L h=>?_) (hr a' b' c' d' L1 hc)
 cases e with
 | normal =>
  obtain⟨a1,b1,c1,d1,L2,h1,h2,h3⟩:=h;exact⟨(a1,b1,c1,d1),L2,h1,h2,h3⟩
 | exit i=>exact h
 | ret=>exact h
theorem nx4 {α β γ δ:Type} {S:α->β->γ->δ->St->St} {C:α->β->γ->δ->Prop} {μ:α->β->γ->δ->Nat} {a:α} {b:β} {c:γ} {d:δ} {L L2:St} (a':α) (b':β) (c':γ) (d':δ) (hc:C a' b' c' d') (hm:μ a' b' c' d'<μ a b c d:=by omega) (he:Weak L (S a' b' c' d' L2):=by apply Weak.of_eq;repeat (first | exact mk_id' cl | refine put_id' ?_ cl)):Nx4 S C μ a b c d L:=⟨a',b',c',d',L2,hc,hm,he⟩
structure V3 where
 x:Rat
 y:Rat
 z:Rat
instance:Inhabited V3:=⟨⟨0,0,0⟩⟩
def ptL (p:V3):LV:=.agg [ratL p.x,ratL p.y,ratL p.z]
theorem ptE:EncOK ptL 9 true:=by
 refine⟨fun s=>?_,fun s=>rfl,fun s=>?_⟩<;>simp [ptL,LV.csize,csizes,LV.pure,pures,ratE.csize,ratE.pure]
structure PoR where
 p:V3
 w:Rat
instance:Inhabited PoR:=⟨⟨⟨0,0,0⟩,0⟩⟩
def poL (q:PoR):LV:=.agg [ptL q.p,ratL q.w]
theorem poE:EncOK poL 12 true:=by
 refine⟨fun s=>?_,fun s=>rfl,fun s=>?_⟩<;>simp [poL,LV.csize,csizes,LV.pure,pures,ratE.csize,ratE.pure,ptE.csize,ptE.pure]
theorem isAgg_agg (l:List LV):(LV.agg l).isAgg=true:=rfl
theorem isAgg_v (c:Value):(LV.v c).isAgg=false:=rfl
theorem cs {p:Prop} (h:p:=by first | exact rfl | (simp [LV.csize,csizes,lay,isAgg_agg,isAgg_v,ratE.csize,spE.csize,ptE.csize,poE.csize,ratE.isAgg,spE.isAgg,ptE.isAgg,poE.isAgg];done)):p:=h
theorem pu {p:Prop} (h:p:=by first | exact rfl | (simp [LV.pure,pures,ratE.pure,spE.pure,ptE.pure,poE.pure, *];done)):p:=h
theorem at_all {y:LV} {n:Nat} (hy:y.csize=n) (ha:y.isAgg=true):y.at 0 n true=some y:=by
 cases y with
 | agg l=>simp only [LV.csize] at hy;simp [LV.at,hy]
 | _=>cases ha
theorem put_rat (a b:Rat):(ratL a).put 0 (ratL b)=some (ratL b):=put_whole _ _ (by rw [ratE.csize,ratE.csize]) (by rw [ratE.isAgg,ratE.isAgg])
theorem put_sp (a b:Rat × Rat):(spL a).put 0 (spL b)=some (spL b):=put_whole _ _ (by rw [spE.csize,spE.csize]) (by rw [spE.isAgg,spE.isAgg])
theorem put_lo (s:Rat × Rat) (r:Rat):(spL s).put 0 (ratL r)=some (spL (r,s.2)):=by
 rw [spL_eq,spL_eq];simp [LV.put,putFs,csizes,ratE.csize,ratE.isAgg,put_rat]
theorem put_hi (s:Rat × Rat) (r:Rat):(spL s).put 3 (ratL r)=some (spL (s.1,r)):=by
 rw [spL_eq,spL_eq];simp [LV.put,putFs,csizes,ratE.csize,ratE.isAgg,put_rat]
theorem atp {p:Prop} (h:p:=by first | exact at_all (y:=ptL _) (ptE.csize _) rfl | exact at_all (y:=poL _) (poE.csize _) rfl | exact rfl | (simp only [sumL,List.take_succ_cons,List.take_zero,List.take_nil,LV.at,atFs,ptL,poL,at_all,ratL_all,spL_all,spL_lo,spL_hi,LV.csize,csizes,ratE.csize,spE.csize,ratE.isAgg,spE.isAgg,Nat.reduceAdd,Nat.reduceLT,Nat.reduceSub,Nat.reduceMul,Nat.add_zero,Nat.zero_add,Int.toNat_natCast,Int.reduceToNat,Int.reduceAdd,Nat.reduceEqDiff,reduceIte,and_true,true_and,and_false,false_and,if_true,if_false,Bool.false_eq_true,Bool.true_eq_false,eq_self,Nat.sub_zero,Nat.lt_irrefl,Nat.sub_self,Nat.zero_mul,Nat.zero_lt_succ]<;>exact rfl)):p:=h
theorem ptp {p:Prop} (h:p:=by first | exact rfl | (simp only [sumL,List.take_succ_cons,List.take_zero,List.take_nil,LV.put,putFs,ptL,poL,LV.csize,csizes,isAgg_agg,isAgg_v,ratE.csize,spE.csize,ratE.isAgg,spE.isAgg,put_rat,put_sp,put_lo,put_hi,Option.map_some,Nat.reduceAdd,Nat.reduceLT,Nat.reduceSub,Nat.reduceMul,Nat.add_zero,Nat.zero_add,Int.toNat_natCast,Int.reduceToNat,Int.reduceAdd,Nat.reduceEqDiff,reduceIte,and_true,true_and,and_false,false_and,if_true,if_false,Bool.false_eq_true,Bool.true_eq_false,eq_self,Nat.sub_zero,Nat.lt_irrefl,Nat.sub_self,Nat.zero_mul,Nat.zero_lt_succ]<;>exact rfl)):p:=h
section
variable {P:Program} {H:Heap} {ρ:Operand->LV} {T E:TypeId} {p x i:Operand} {n sz:Nat} {ag:Bool} {fs:List LV} {r:LV} {k:IntKind} {m:Int} {b o j:Nat}
theorem OpP.ixa [u:UN P T (.array n E)] [t:TI P E sz ag] (hx:ρ x=.agg fs) (hi:ρ i=.v (.int k m)) (h0:0<=m) (hr:fs[m.toNat]?=some r) (hp:r.pure=true) (hf:fs.map lay=ai n (sz,ag)):OpP P H ρ (.index T x i) r:=.idxA hx u.h t.h hf hi h0 hr hp
theorem OpP.ixe [u:UN P T (.array n E)] [t:TI P E sz ag] {s2:Nat} (hx:ρ x=.eptr b s2 j o) (hi:ρ i=.v (.int k m)) (h0:0<=m) (hm:m<n):OpP P H ρ (.indexAddr T x i) (.eptr b s2 j (o+m.toNat*sz)):=.idxAE hx u.h t.h hi h0 hm
theorem OpP.ixb [u:UN P T (.array n E)] [t:TI P E sz ag] (hx:ρ x=.boxp (.agg fs)) (hi:ρ i=.v (.int k m)) (h0:0<=m) (hr:fs[m.toNat]?=some r) (hf:fs.map lay=ai n (sz,ag)):OpP P H ρ (.indexAddr T x i) (.boxp r):=.idxAB hx u.h t.h hf hi h0 hr
theorem OpP.bda {zs:List LV} {ps:Array (Nat × Operand)} [u:UN P T (.array n E)] [t:TI P E sz ag] [z:ZI P T (.agg zs)] (h:∀ z∈zs,lay z=(sz,ag)) (hp:∀ p∈ps.toList,∃ z,zs[p.1]?=some z/\lay (ρ p.2)=lay z/\ρ p.2≠.any/\∀ m,ρ p.2≠.tup m) :
  OpP P H ρ (.build T ps) (.agg (buildL zs (ps.toList.map fun p=>(p.1,ρ p.2)))):=.buildA u.h t.h h z.h hp
theorem OpP.bda3 {o0 o1 o2:Operand} {a b c:Rat} [u:UN P T (.array 3 E)] [t:TI P E 3 true] [z:ZI P T (.agg [ratL 0,ratL 0,ratL 0])] (h0:ρ o0=ratL a) (h1:ρ o1=ratL b) (h2:ρ o2=ratL c) :
  OpP P H ρ (.build T #[(0,o0),(1,o1),(2,o2)]) (.agg [ratL a,ratL b,ratL c]):=by
 have:=OpP.bda (H:=H) (ρ:=ρ) (ps:=#[(0,o0),(1,o1),(2,o2)]) (u:=u) (t:=t) (z:=z) (by simp [lay,ratE.csize,ratE.isAgg]) (by
  intro p hp;simp only [bp,cN,or_false] at hp;rcases hp with rfl | rfl | rfl
  ·exact aaL
  ·exact⟨_,rfl,by rw [h1];simp [lay,ratE.csize,ratE.isAgg],by rw [h1];exact LV.pure_ne_any (ratE.pure _),by rw [h1];exact LV.pure_ne_tup (ratE.pure _)⟩
  exact⟨_,rfl,by rw [h2];simp [lay,ratE.csize,ratE.isAgg],by rw [h2];exact LV.pure_ne_any (ratE.pure _),by rw [h2];exact LV.pure_ne_tup (ratE.pure _)⟩)
 simpa only [buildL,jt,lM,lZ,h0,h1,h2] using this
theorem OpP.bda4 {o0 o1 o2 o3:Operand} {a b c d:Rat} [u:UN P T (.array 4 E)] [t:TI P E 3 true] [z:ZI P T (.agg [ratL 0,ratL 0,ratL 0,ratL 0])] (h0:ρ o0=ratL a) (h1:ρ o1=ratL b) (h2:ρ o2=ratL c) (h3:ρ o3=ratL d) :
  OpP P H ρ (.build T #[(0,o0),(1,o1),(2,o2),(3,o3)]) (.agg [ratL a,ratL b,ratL c,ratL d]):=by
 have:=OpP.bda (H:=H) (ρ:=ρ) (ps:=#[(0,o0),(1,o1),(2,o2),(3,o3)]) (u:=u) (t:=t) (z:=z) (by simp [lay,ratE.csize,ratE.isAgg]) (by
  intro p hp;simp only [bp,cN,or_false] at hp;rcases hp with rfl | rfl | rfl | rfl
  ·exact aaL
  ·exact⟨_,rfl,by rw [h1];simp [lay,ratE.csize,ratE.isAgg],by rw [h1];exact LV.pure_ne_any (ratE.pure _),by rw [h1];exact LV.pure_ne_tup (ratE.pure _)⟩
  ·exact⟨_,rfl,by rw [h2];simp [lay,ratE.csize,ratE.isAgg],by rw [h2];exact LV.pure_ne_any (ratE.pure _),by rw [h2];exact LV.pure_ne_tup (ratE.pure _)⟩
  exact⟨_,rfl,by rw [h3];simp [lay,ratE.csize,ratE.isAgg],by rw [h3];exact LV.pure_ne_any (ratE.pure _),by rw [h3];exact LV.pure_ne_tup (ratE.pure _)⟩)
 simpa only [buildL,jt,lM,lZ,h0,h1,h2,h3] using this
theorem OpP.bda2 {o0 o1:Operand} {a b:Rat} [u:UN P T (.array 2 E)] [t:TI P E 3 true] [z:ZI P T (.agg [ratL 0,ratL 0])] (h0:ρ o0=ratL a) (h1:ρ o1=ratL b):OpP P H ρ (.build T #[(0,o0),(1,o1)]) (.agg [ratL a,ratL b]):=by
 have:=OpP.bda (H:=H) (ρ:=ρ) (ps:=#[(0,o0),(1,o1)]) (u:=u) (t:=t) (z:=z) (by simp [lay,ratE.csize,ratE.isAgg]) (by
  intro p hp;simp only [bp,cN,or_false] at hp;rcases hp with rfl | rfl
  ·exact aaL
  exact⟨_,rfl,by rw [h1];simp [lay,ratE.csize,ratE.isAgg],by rw [h1];exact LV.pure_ne_any (ratE.pure _),by rw [h1];exact LV.pure_ne_tup (ratE.pure _)⟩)
 simpa only [buildL,jt,lM,lZ,h0,h1] using this
theorem OpP.bdq3 {o0 o1 o2:Operand} {a b c d e f:Rat} [u:UN P T (.array 3 E)] [t:TI P E 6 true] [z:ZI P T (.agg [.agg [ratL 0,ratL 0],.agg [ratL 0,ratL 0],.agg [ratL 0,ratL 0]])]
  (h0:ρ o0=.agg [ratL a,ratL b]) (h1:ρ o1=.agg [ratL c,ratL d]) (h2:ρ o2=.agg [ratL e,ratL f]):OpP P H ρ (.build T #[(0,o0),(1,o1),(2,o2)]) (.agg [.agg [ratL a,ratL b],.agg [ratL c,ratL d],.agg [ratL e,ratL f]]):=by
 have:=OpP.bda (H:=H) (ρ:=ρ) (ps:=#[(0,o0),(1,o1),(2,o2)]) (u:=u) (t:=t) (z:=z) (by simp [lay,LV.csize,csizes,ratE.csize,isAgg_agg]) (by
  intro p hp;simp only [bp,cN,or_false] at hp;rcases hp with rfl | rfl | rfl
  ·exact⟨_,rfl,by rw [h0];simp [lay,LV.csize,csizes,ratE.csize,isAgg_agg],by rw [h0];exact(fun h=>LV.noConfusion h),by rw [h0];exact(fun _ h=>LV.noConfusion h)⟩
  ·exact⟨_,rfl,by rw [h1];simp [lay,LV.csize,csizes,ratE.csize,isAgg_agg],by rw [h1];exact(fun h=>LV.noConfusion h),by rw [h1];exact(fun _ h=>LV.noConfusion h)⟩
  exact⟨_,rfl,by rw [h2];simp [lay,LV.csize,csizes,ratE.csize,isAgg_agg],by rw [h2];exact(fun h=>LV.noConfusion h),by rw [h2];exact(fun _ h=>LV.noConfusion h)⟩)
 simpa only [buildL,jt,lM,lZ,h0,h1,h2] using this
theorem OpP.ldp {vals:List LV} {y:LV} {mt:Bool} [t:TI P T n ag] (hp:ρ p=.eptr b sz j o) (hb:H b=some ⟨sz,vals,mt⟩) (hi:vals[j]?=some y) (hy:y.csize=sz) (hr:y.at o n ag=some r):OpP P H ρ (.load T p) r:=.loadE hp hb rfl hi hy hr t.h
theorem OpP.ldbx {c:LV} [t:TI P T n ag] (hp:ρ p=.boxp c) (hc:c.pure=true) (hs:c.csize=n) (ha:c.isAgg=ag):OpP P H ρ (.load T p) c:=.loadB hp (by rw [hs,ha];exact t.h) hc
theorem OpT.stp {L:St} {vals:List LV} {y y' v:LV} {dst:Option Tmp} [t:TI P T n ag] (hp:L.ev p=.eptr b sz j o) (hb:L.heap b=some ⟨sz,vals,true⟩) (hi:vals[j]?=some y) (hx:L.ev x=v) (hy:y.csize=sz) (hv:v.csize=n) (k9:v.isAgg=ag) (fb:y.put o v=some y') (ak:v≠.any/\∀ m,v≠.tup m) :
  OpT P L dst (.store T p x) ((L.setB b (some ⟨sz,vals.set j y',true⟩)).put dst .any):=.store hp hb rfl rfl hi hy (by rw [hx];exact fb) (by rw [hx,hv,k9];exact t.h) (by rw [hx];exact ak)
end
structure Hold (q:Prop):Prop where
 h:q
theorem fq {p q:Prop} (k:q) (h:Hold q->p:=by intro aD;refine wl_unroll ?_;refine zg6 ?_;refine wl_condX (b:=_) rfl ae ?_;exact aD.h):p:=h ⟨k⟩
theorem bq {p q:Prop} (k:q) (h:Hold q->p:=by intro aD;refine st_pure rfl ad4 ?_;refine zg3 ?_;exact aD.h):p:=h ⟨k⟩
theorem gn {p q:Prop} (k:q) (h:Hold q->p:=by intro aD;refine stV_one rfl ?_;refine zg1 ?_;refine st_nil ?_;exact aD.h):p:=h ⟨k⟩
theorem rE {p q:Prop} (k:q) (h:Hold q->p:=by intro aD;refine st_alloc rfl rfl (lit1V (z:=celV ([],[],0,0)) (v:=.agg [.list 6 ((x.1.take na).map spL),.list 6 ((x.1.drop na).map spL),nI64 (kindV (lk (x.1.take na) (x.1.drop na))),nI64 (kV (lk (x.1.take na) (x.1.drop na)))]) Tryz.underlying36 celZ rfl rfl T46 rfl rfl rfl acj ae ae) ?_;refine st_store rfl aeJ ?_;exact aD.h):p:=h ⟨k⟩
theorem lK {p q:Prop} (k:q) (h:Hold q->p:=by intro aD;refine wl_unroll ?_;refine zg7 ?_;refine wl_condX (b:=_) rfl ae ?_;refine zg4 ?_;exact aD.h):p:=h ⟨k⟩
theorem ae5 {p q:Prop} (k:q) (h:Hold q->p:=by intro aD;refine gn ?_;refine anyV_1 10 ah ?_;refine stV_one rfl ?_;refine st_store rfl agv ?_;refine st_nil ?_;refine anyV_1 11 ah ?_;exact aD.h):p:=h ⟨k⟩
theorem aeI {p q:Prop} (k:q) (h:Hold q->p:=by intro aD;refine gn ?_;refine anyV_1 12 ah ?_;refine gn ?_;refine anyV_0 ah ?_;refine zg2 ?_;refine wl_regW (Weak.kill _ 39) ?_;exact aD.h):p:=h ⟨k⟩
theorem sO {p q:Prop} (k:q) (h:Hold q->p:=by intro aD;refine st_pure fi (.bin rfl rfl rfl) ?_;refine st_pure rfl (.pickT rfl ((decide_eq_true J))) ?_;refine zg1 ?_;refine st_pure fi faA ?_;refine st_pure fi ldA ?_;exact aD.h):p:=h ⟨k⟩
theorem aat {p q:Prop} (k:q) (h:Hold q->p:=by intro aD;refine st_nil ?_;refine any_1 13 _ ah rfl ?_;refine st_alloc rfl rfl (.lit2 (a:=⟨b,1⟩) (b:=⟨d,1⟩) (z:=⟨⟨0,0,0⟩,0⟩) poE Tryz.underlying59 (show ZeroOK _ _ (poL ⟨⟨0,0,0⟩,0⟩) from Z119) T119 rfl rfl ae ae) ?_;refine st_nil ?_;refine any_1 14 _ ah rfl ?_;refine st_alloc rfl rfl (.lit (z:=prL []) (sz:=1) Tryz.underlying27 prZ T59 rfl ae ae ae adI) ?_;exact aD.h):p:=h ⟨k⟩
theorem abA {p q:Prop} (k:q) (h:Hold q->p:=by intro aD;refine any_hoistC 0 rfl rfl ah (.pure (.ldbx rfl bK rfl rfl)) (fun b=>LV.kill_pure b _ bK) fmA ?_;refine any_hoistC 1 rfl rfl ah (.pure (.ldbx rfl hsz rfl rfl)) (fun b=>LV.kill_pure b _ hsz) fmA ?_;refine any_hoistC 2 rfl rfl ah (.pure (.ldbx rfl (ptE.pure _) (ptE.csize _) rfl)) (fun b=>ptL_kill _ b) fmA ?_;refine any_hoistC 3 rfl rfl ah (.pure (.ldbx rfl (ptE.pure _) (ptE.csize _) rfl)) (fun b=>ptL_kill _ b) fmA ?_;refine any_hoistC 4 rfl rfl ah (opvP (.cons (.pure (ptE.pure _)) (.cons (.pure (ptE.pure _)) .nil)) zI) (fun b=>mpL_kill _ b) (And.intro (fun _=>rfl) (And.intro (fun b=>show LV.kill b (ptL Q)=ptL Q from ptL_kill _ b) (And.intro (fun b=>show LV.kill b (ptL P)=ptL P from ptL_kill _ b) trivial))) ?_;exact aD.h):p:=h ⟨k⟩
theorem km {p q:Prop} (k:q) (h:Hold q->p:=by intro aD;refine wl_unroll ?_;refine zg6 ?_;refine wl_condY (b:=_) rfl ae ?_;exact aD.h):p:=h ⟨k⟩
theorem ac8 {p q:Prop} (k:q) (h:Hold q->p:=by intro aD;refine st_nil ?_;refine any_1 5 _ ah rfl ?_;refine cp am1 (c_FInt (1+(nxV l (d3K l k) 3).tmod 3) J J) ?_;refine st_nil ?_;refine any_1 6 _ ah rfl ?_;refine s0bd (bdPo rfl rfl) ?_;exact aD.h):p:=h ⟨k⟩
theorem sJ {p q:Prop} (k:q) (h:Hold q->p:=by intro aD;refine stV_hand 38 32 12 (0+((eo.getD i []).map poL).length) ((eo.getD i []).map poL) true rfl ?_;refine st_store rfl aeH ?_;refine st_nil ?_;exact aD.h):p:=h ⟨k⟩
theorem adi {p q:Prop} (k:q) (h:Hold q->p:=by intro aD;refine any_hoistC 5 rfl rfl ah (opvP (.cons (.pure hsz) (.cons (.pure (mpE.pure _)) .nil)) oP) (fun b=>LV.kill_pure b _ hsm) (And.intro (fun _=>rfl) (And.intro (fun b=>show LV.kill b (.agg [nI64 W,nI64 Y,.list 3 (kW.map ratL),.list 3 (kY.map ratL),.list 1 (eO.map prL)])=(.agg [nI64 W,nI64 Y,.list 3 (kW.map ratL),.list 3 (kY.map ratL),.list 1 (eO.map prL)]) from LV.kill_pure b _ hsz) (And.intro (fun b=>show LV.kill b (mpL (shM (v3s P Q)))=mpL (shM (v3s P Q)) from mpL_kill _ b) trivial))) ?_;refine any_hoistC 6 rfl rfl ah (.pure (.ldbx (n:=12) (ag:=true) rfl lH mf rfl)) (fun b=>LV.kill_pure b _ lH) fmA ?_;refine any_1 7 _ ah rfl ?_;refine zg1 ?_;exact aD.h):p:=h ⟨k⟩
theorem nP {p q:Prop} (k:q) (h:Hold q->p:=by intro aD;refine zg1 ?_;refine st_nil ?_;refine any_0 ah ?_;refine zg2 ?_;exact aD.h):p:=h ⟨k⟩
theorem adT {p q:Prop} (k:q) (h:Hold q->p:=by intro aD;refine wl_regAW (((((Weak.boxp (t:=10) (b:=10) rfl rfl cs rfl bK).trans (Weak.boxp (t:=11) (b:=11) rfl rfl (by rw [LV.kill_pure _ _ hsz];exact cs) (by rw [LV.kill_pure _ _ hsz];rfl) (by rw [LV.kill_pure _ _ hsz];exact hsz))).trans (Weak.boxp (t:=17) (b:=17) rfl rfl abO (by simp only [LV.kill,kills,ptL_kill,ratL_kill];rfl) acy)).trans (Weak.boxp (t:=19) (b:=19) rfl rfl abO (by simp only [LV.kill,kills,ptL_kill,ratL_kill];rfl) acy)).trans (Weak.boxp (t:=16) (b:=16) rfl rfl (by simp only [yN];exact aaS) (by simp only [yN];rfl) (by simp only [yN];exact lH))) ?_;refine zSm ?_;exact aD.h):p:=h ⟨k⟩
theorem wX {p q:Prop} (k:q) (h:Hold q->p:=by intro aD;refine st_alloc rfl rfl (.lit2 (a:=⟨a,1⟩) (b:=⟨c,1⟩) (z:=⟨⟨0,0,0⟩,0⟩) poE Tryz.underlying59 (show ZeroOK _ _ (poL ⟨⟨0,0,0⟩,0⟩) from Z119) T119 rfl rfl ae ae) ?_;exact aD.h):p:=h ⟨k⟩
theorem pK {p q:Prop} (k:q) (h:Hold q->p:=by intro aD;refine st_pure eE (.bin rfl rfl rfl) ?_;refine st_pure rfl (.pickT rfl ((rfl))) ?_;exact aD.h):p:=h ⟨k⟩
theorem yf {p q:Prop} (k:q) (h:Hold q->p:=by intro aD;refine zg14 ?_;refine wl_condY (b:=_) rfl (rfl) ?_;refine zg3 ?_;refine wl_regW (Weak.kill _ 6) ?_;refine zg4 ?_;exact aD.h):p:=h ⟨k⟩
theorem sM {p q:Prop} (k:q) (h:Hold q->p:=by intro aD;refine any_hoistC 0 rfl rfl ah (.pure faA) fmV fmA ?_;refine any_hoistC 1 rfl rfl ah (.pure ldA) fmV fmA ?_;exact aD.h):p:=h ⟨k⟩
theorem wm {p q:Prop} (k:q) (h:Hold q->p:=by intro aD;refine fq ?_;refine zg11 ?_;refine wl_regF 11 [9] ah ?_;refine zg6 ?_;exact aD.h):p:=h ⟨k⟩
theorem qQ {p q:Prop} (k:q) (h:Hold q->p:=by intro aD;refine cp am1 (c_den _) ?_;refine cp am2 (c_NMul _ _ (lim_dig _) (lim_dig _) J J) ?_;exact aD.h):p:=h ⟨k⟩
theorem cG {p q:Prop} (k:q) (h:Hold q->p:=by intro aD;refine st_pure rfl ad4 ?_;exact aD.h):p:=h ⟨k⟩
theorem wL {p q:Prop} (k:q) (h:Hold q->p:=by intro aD;refine wl_regW (((((Weak.kill _ 18).trans (Weak.kill _ 19)).trans (Weak.kill _ 22)).trans (Weak.kill _ 25)).trans (Weak.kill _ 27)) ?_;refine zg1 ?_;refine bq ?_;exact aD.h):p:=h ⟨k⟩
theorem nj {p q:Prop} (k:q) (h:Hold q->p:=by intro aD;refine ae5 ?_;refine aeI ?_;refine zg1 ?_;refine bq ?_;exact aD.h):p:=h ⟨k⟩
theorem mg {p q:Prop} (k:q) (h:Hold q->p:=by intro aD;refine st_pure eE faA ?_;refine st_pure eE ldA ?_;exact aD.h):p:=h ⟨k⟩
theorem wM {p q:Prop} (k:q) (h:Hold q->p:=by intro aD;refine st_nil ?_;refine any_1 15 _ ah rfl ?_;refine st_pure rfl aec ?_;refine st_nil ?_;refine any_1 16 _ ah rfl ?_;refine nP ?_;exact aD.h):p:=h ⟨k⟩
theorem xg {p q:Prop} (k:q) (h:Hold q->p:=by intro aD;refine st_nil ?_;refine any_1 4 _ ah rfl ?_;refine st_pure rfl mo ?_;refine ac8 ?_;refine st_nil ?_;refine any_1 7 _ ah rfl ?_;exact aD.h):p:=h ⟨k⟩
theorem fQ {p q:Prop} (k:q) (h:Hold q->p:=by intro aD;refine zg1 ?_;refine st_nil ?_;exact aD.h):p:=h ⟨k⟩
theorem zM {p q:Prop} (k:q) (h:Hold q->p:=by intro aD;refine st_callMp 0 rfl rfl rfl (dice_pure l _) (.cons .ptr (.cons (.imm (.pure rfl)) .nil)) .ptr (c_Next l (d3K l k) 3 J J J J) rfl (dice_pure l _) rfl ?_;refine st_nil ?_;exact aD.h):p:=h ⟨k⟩
theorem qS {p q:Prop} (k:q) (h:Hold q->p:=by intro aD;refine wl_unroll ?_;refine zg7 ?_;refine wl_condY (b:=_) rfl ae ?_;exact aD.h):p:=h ⟨k⟩
theorem rA {p q:Prop} (k:q) (h:Hold q->p:=by intro aD;refine cp am1 (c_FDen _) ?_;refine cp am2 (c_FMul _ _ J J) ?_;exact aD.h):p:=h ⟨k⟩
theorem oW {p q:Prop} (k:q) (h:Hold q->p:=by intro aD;refine lK ?_;refine wl_regD 9 ah ?_;refine zg7 ?_;exact aD.h):p:=h ⟨k⟩
theorem fu {p q:Prop} (k:q) (h:Hold q->p:=by intro aD;refine st_pure rfl aeV ?_;exact aD.h):p:=h ⟨k⟩
theorem ack {p q:Prop} (k:q) (h:Hold q->p:=by intro aD;refine zg9 ?_;refine st_alloc rfl rfl (.mkE (n:=0) (m:=p.length) ml ml om om om) ?_;refine zg12 ?_;refine lp1 (fun(k:Nat) L=>(mS L [(8,⟨3,(p.take k).map ratL,true⟩)] [(11,nI64 k),(10,nI64 p.length),(9,.list 3 (p.map ratL)),(3,.ref 8 3 0 k)])) (fun k=>k<=p.length) (fun k=>p.length-k) 0 (Nat.zero_le _) ?_;exact aD.h):p:=h ⟨k⟩
theorem fG {p q:Prop} (k:q) (h:Hold q->p:=by intro aD;refine st_pure rfl afi ?_;exact aD.h):p:=h ⟨k⟩
theorem aaV {p q:Prop} (k:q) (h:Hold q->p:=by intro aD;refine zg8 ?_;refine wl_regF 10 [8] ah ?_;refine zg3 ?_;refine cp am1 (c_SWidth (a,b) (by show rl b+rl a<=_;omega)) ?_;refine cp am1 (c_SPoint (b-a) J) ?_;exact aD.h):p:=h ⟨k⟩
theorem ads {p q:Prop} (k:q) (h:Hold q->p:=by intro aD;refine zg4 ?_;refine cp am2 ((c_RMax s.1 t.1 J:CallP Tryz.prog 141 [ratL s.1,ratL t.1] (ratL (mxR s.1 t.1)))) ?_;refine zg4 ?_;refine cp am2 ((c_RMin s.2 t.2 J:CallP Tryz.prog 140 [ratL s.2,ratL t.2] (ratL (mnR s.2 t.2)))) ?_;refine zg12 ?_;refine cp am2 (c_RCmp (mxR s.1 t.1) (mnR s.2 t.2) J) ?_;exact aD.h):p:=h ⟨k⟩
theorem aaf {p q:Prop} (k:q) (h:Hold q->p:=by intro aD;refine zg5 ?_;refine st_callP rfl (.cons (.pure (boxL_pure x)) .nil) (c_Bhalves x n D yA aG J uq hdx J (hL.tm x iD) 1000 ae ma) ?_;refine zg14 ?_;exact aD.h):p:=h ⟨k⟩
theorem abe {p q:Prop} (k:q) (h:Hold q->p:=by intro aD;refine zg4 ?_;refine st_callP rfl (.cons (.pure bK) (.cons (.pure (ratE.pure _)) (.cons (.pure (ratE.pure _)) (.nil)))) q7 ?_;refine zg10 ?_;refine st_pure rfl pn ?_;refine zg4 ?_;refine st_callP rfl (.cons (.pure hsz) (.cons (.pure (ratE.pure _)) (.cons (.pure (ratE.pure _)) (.nil)))) rG ?_;exact aD.h):p:=h ⟨k⟩
theorem adu {p q:Prop} (k:q) (h:Hold q->p:=by intro aD;refine st_pure rfl (show OpP _ _ _ _ (.agg [iL 0,iL 9,ratL 0]) from .build (zs:=[.v (.int .i64 0),.v (.int .i64 0),ratL 0]) (by simpa [lay,LV.csize,csizes,isAgg_v,ratE.csize,ratE.isAgg] using SL41) Z41 (by simp only [List.forall_mem_cons];exact⟨⟨_,rfl,rfl,ne0⟩,fun _ h=>by cases h⟩)) ?_;exact aD.h):p:=h ⟨k⟩
theorem af0 {p q:Prop} (k:q) (h:Hold q->p:=by intro aD;refine st_pure eE (.move _) ?_;refine st_pure eE (.idxL (n:=0) (r:=(.agg [.list 6 ([((0,1):Sp),(0,1)].map spL),.list 6 ([((0,1):Sp),(0,1)].map spL),nI64 4,nI64 1])) rfl Tryz.underlying36 T46 rfl ae rfl rfl) ?_;refine mg ?_;refine pK ?_;refine zg1 ?_;refine st_pure eE (.move _) ?_;exact aD.h):p:=h ⟨k⟩
theorem aal {p q:Prop} (k:q) (h:Hold q->p:=by intro aD;refine zg6 ?_;refine wl_regW ((Weak.kill _ 10).trans (Weak.kill _ 50)) ?_;refine zg4 ?_;refine fq ?_;refine zg13 ?_;refine wl_regF 7 [0] ah ?_;exact aD.h):p:=h ⟨k⟩
theorem xj {p q:Prop} (k:q) (h:Hold q->p:=by intro aD;refine st_pure ij (.bin rfl rfl rfl) ?_;refine st_pure rfl (.pickF rfl ((decide_eq_false J))) ?_;exact aD.h):p:=h ⟨k⟩
theorem wG {p q:Prop} (k:q) (h:Hold q->p:=by intro aD;refine st_unhide rfl rfl (fun om h=>by cases h;exact⟨_,_,_,_,_,rfl,rfl⟩) ?_;exact aD.h):p:=h ⟨k⟩
theorem aaa {p q:Prop} (k:q) (h:Hold q->p:=by intro aD;refine fnP Tryz.func37 ?_;refine zg14 ?_;refine wm ?_;refine cp am2 (c_SMeet a.x b.x R hR a1 y1 dH) ?_;refine yf ?_;refine wm ?_;exact aD.h):p:=h ⟨k⟩
theorem aa3 {p q:Prop} (k:q) (h:Hold q->p:=by intro aD;refine fnP Tryz.func171 (ht:=(fun r=>LV.ren_pure r _ (spE.pure _))) ?_;refine zg6 ?_;refine wl_regD 20 ah ?_;refine zg8 ?_;refine zSm ?_;exact aD.h):p:=h ⟨k⟩
theorem pS {p q:Prop} (k:q) (h:Hold q->p:=by intro aD;refine wl_regW (Weak.kill _ 7) ?_;refine bq ?_;exact aD.h):p:=h ⟨k⟩
theorem iR {p q:Prop} (k:q) (h:Hold q->p:=by intro aD;refine fq ?_;refine zg10 ?_;exact aD.h):p:=h ⟨k⟩
theorem ldA {P:Program} {H:Heap} {ρ:Operand->LV} {T:TypeId} {p:Operand} {x:LV} (h:OpP P H ρ (.load T p) x:=by first | (apply OpP.ldB;exact rfl) | exact .ldRat rfl rfl rfl TI.h | exact .ldSp rfl rfl rfl TI.h | (apply OpP.ldE;exact rfl;exact rfl;exact om) | exact .ldLo rfl rfl rfl TI.h | exact .ldHi rfl rfl rfl TI.h | exact .ldDen rfl rfl rfl TI.h | exact .ldNum rfl rfl rfl TI.h | exact .ldNeg rfl rfl rfl TI.h | exact .loadE rfl rfl rfl rfl rfl rfl TI.h | (apply OpP.ldp;exact rfl;exact rfl;exact rfl;exact cs;exact atp) | (apply OpP.ldbx;exact rfl;exact pu;exact cs;exact cs)):OpP P H ρ (.load T p) x:=h
section
variable {P:Program} {H:Heap} {ρ:Operand->LV} {T U:TypeId} {x y:Operand}
theorem OpP.aI {a b:Int} (hx:ρ x=.v (.int .i64 a)) (hy:ρ y=.v (.int .i64 b)) (h1:-9223372036854775808<=a+b) (h2:a+b<=9223372036854775807):OpP P H ρ (.binOp .add T x y U) (.v (.int .i64 (a+b))):=.bin hx hy (add64 h1 h2)
theorem OpP.sI {a b:Int} (hx:ρ x=.v (.int .i64 a)) (hy:ρ y=.v (.int .i64 b)) (h1:-9223372036854775808<=a-b) (h2:a-b<=9223372036854775807):OpP P H ρ (.binOp .sub T x y U) (.v (.int .i64 (a-b))):=.bin hx hy (sub64 h1 h2)
theorem OpP.mI {a b:Int} (hx:ρ x=.v (.int .i64 a)) (hy:ρ y=.v (.int .i64 b)) (h1:-9223372036854775808<=a*b) (h2:a*b<=9223372036854775807):OpP P H ρ (.binOp .mul T x y U) (.v (.int .i64 (a*b))):=.bin hx hy (mul64 h1 h2)
theorem OpP.aU {a b:Nat} (hx:ρ x=.v (.int .u64 (a:Nat))) (hy:ρ y=.v (.int .u64 (b:Nat))) (h:a+b<18446744073709551616):OpP P H ρ (.binOp .add T x y U) (.v (.int .u64 ((a+b:Nat):Int))):=.bin hx hy (addU h)
theorem OpP.mU {a b:Nat} (hx:ρ x=.v (.int .u64 (a:Nat))) (hy:ρ y=.v (.int .u64 (b:Nat))) (h:a*b<18446744073709551616):OpP P H ρ (.binOp .mul T x y U) (.v (.int .u64 ((a*b:Nat):Int))):=.bin hx hy (mulU h)
theorem OpP.sU {a b:Nat} (hx:ρ x=.v (.int .u64 (a:Nat))) (hy:ρ y=.v (.int .u64 (b:Nat))) (h:b<=a) (h1:a<18446744073709551616):OpP P H ρ (.binOp .sub T x y U) (.v (.int .u64 ((a-b:Nat):Int))):=.bin hx hy (subU h h1)
theorem OpP.rU {a b:Nat} (hx:ρ x=.v (.int .u64 (a:Nat))) (hy:ρ y=.v (.int .u64 (b:Nat))) (h:0<b):OpP P H ρ (.binOp .rem T x y U) (.v (.int .u64 ((a % b:Nat):Int))):=.bin hx hy (remU h)
theorem OpP.oU {a b:Nat} (hx:ρ x=.v (.int .u64 ((a*4294967296:Nat):Int))) (hy:ρ y=.v (.int .u64 (b:Nat))) (h:b<4294967296) (h1:a<4294967296):OpP P H ρ (.binOp .or T x y U) (.v (.int .u64 ((a*4294967296+b:Nat):Int))):=.bin hx hy (orU h h1)
theorem OpP.hl {a:Nat} {k:IntKind} (hx:ρ x=.v (.int .u64 (a:Nat))) (hy:ρ y=.v (.int k 32)) (h:a*4294967296<18446744073709551616):OpP P H ρ (.binOp .shl T x y U) (.v (.int .u64 ((a*4294967296:Nat):Int))):=.sh hx hy (shl32 h)
theorem OpP.hr {a:Nat} {k:IntKind} (hx:ρ x=.v (.int .u64 (a:Nat))) (hy:ρ y=.v (.int k 32)):OpP P H ρ (.binOp .shr T x y U) (.v (.int .u64 ((a/4294967296:Nat):Int))):=.sh hx hy shr32
theorem OpP.hs63 {a:Nat} {k:IntKind} (hx:ρ x=.v (.int .u64 (a:Nat))) (hy:ρ y=.v (.int k 63)):OpP P H ρ (.binOp .shr T x y U) (.v (.int .u64 ((a/9223372036854775808:Nat):Int))):=.sh hx hy shr63
end
theorem biA {P:Program} {H:Heap} {ρ:Operand->LV} {o:BinOp} {T U:TypeId} {p y:Operand} {x:LV} (h:OpP P H ρ (.binOp o T p y U) x:=by first | (apply OpP.cmp;exact rfl;exact rfl;exact rfl;exact rfl) | (apply OpP.aI;exact rfl;exact rfl;exact om;exact om) | (apply OpP.sI;exact rfl;exact rfl;exact om;exact om) | (apply OpP.mI;exact rfl;exact rfl;exact om;exact om) | (apply OpP.aU;exact rfl;exact rfl;exact om) | (apply OpP.mU;exact rfl;exact rfl;exact om) | (apply OpP.sU;exact rfl;exact rfl;exact om;exact om) | (apply OpP.qU;exact rfl;exact rfl;exact om;exact om) | (apply OpP.rU;exact rfl;exact rfl;exact om) | (apply OpP.oU;exact rfl;exact rfl;exact om;exact om) | (apply OpP.hl;exact rfl;exact rfl;exact om) | (apply OpP.hr;exact rfl;exact rfl) | (apply OpP.hs63;exact rfl;exact rfl) | (apply OpP.beq;exact rfl;exact rfl;exact UN.h) | (apply OpP.bne;exact rfl;exact rfl;exact UN.h)):OpP P H ρ (.binOp o T p y U) x:=h
theorem lnA {P:Program} {H:Heap} {ρ:Operand->LV} {b:Builtin} {xs:Array Operand} {as:Array TypeId} {x:LV} (h:OpP P H ρ (.call ⟨.builtin b,xs,as⟩) x:=by first | exact .lenLm rfl rfl UN.h | exact .lenL rfl rfl UN.h | exact .lenR rfl rfl UN.h | exact .lenC rfl rfl UN.h | exact .capC rfl rfl UN.h | exact .lenN rfl rfl UN.h | exact .min2 rfl rfl | exact .max2 rfl rfl):OpP P H ρ (.call ⟨.builtin b,xs,as⟩) x:=h
theorem srA {P:Program} {L L':St} {dst:Option Tmp} {T:TypeId} {p x:Operand} (h:OpT P L dst (.store T p x) L':=by first | exact .stRat rfl rfl rfl rfl TI.h | exact .stR1 rfl rfl rfl TI.h | exact .stSp rfl rfl rfl TI.h | (apply OpT.stE;exact rfl;exact rfl;exact rfl;exact om) | exact .store rfl rfl rfl rfl rfl rfl rfl TI.h ne0 | (apply OpT.stp;exact rfl;exact rfl;exact rfl;(first | exact(rfl:_=ratL _) | exact(rfl:_=ptL _) | exact(rfl:_=poL _) | exact(rfl:_=spL _) | exact(rfl:_=LV.agg _) | exact rfl);exact cs;exact cs;exact cs;exact ptp;exact ne0)):OpT P L dst (.store T p x) L':=h
theorem cvA {P:Program} {H:Heap} {ρ:Operand->LV} {S D:TypeId} {p:Operand} {x:LV} (h:OpP P H ρ (.convert S D p) x:=by first | exact .cv32 UN.h UN.h rfl | (apply OpP.cv64;exact UN.h;exact UN.h;exact rfl;exact om) | (apply OpP.cvI;exact UN.h;exact UN.h;exact rfl;exact om;exact om) | exact .conv UN.h UN.h rfl):OpP P H ρ (.convert S D p) x:=h
theorem lays {P:Program} {T:TypeId} {l:List (Nat × Bool)} {fs:List LV} (h:StructLay P T l) (e:fs.map lay=l):StructLay P T (fs.map lay):=e ▸ h
theorem ixaA {P:Program} {H:Heap} {ρ:Operand->LV} {T:TypeId} {p i:Operand} {x:LV} (h:OpP P H ρ (.index T p i) x:=by(apply OpP.ixa;exact rfl;exact rfl;exact om;exact rfl;exact pu;exact cs)):OpP P H ρ (.index T p i) x:=h
theorem faA {P:Program} {H:Heap} {ρ:Operand->LV} {T:TypeId} {p:Operand} {k:Nat} {x:LV} (h:OpP P H ρ (.fieldAddr T p k) x:=by first | exact .fieldAddrE rfl SI.h ae | exact .fieldAddrB rfl SI.h rfl | (refine .fieldAddrB rfl (lays SI.h cs) rfl)):OpP P H ρ (.fieldAddr T p k) x:=h
theorem ixA {P:Program} {H:Heap} {ρ:Operand->LV} {T:TypeId} {p i:Operand} {x:LV} (h:OpP P H ρ (.indexAddr T p i) x:=by first | (apply OpP.ixL;exact rfl;exact rfl;exact om;exact om) | (apply OpP.ixR;exact rfl;exact rfl;exact om;exact om) | (apply OpP.ixe;exact rfl;exact rfl;exact om;exact om) | (apply OpP.ixb;exact rfl;exact rfl;exact om;exact rfl;exact cs)):OpP P H ρ (.indexAddr T p i) x:=h
section
variable {P:Program} {dr:Bool} {ops:Array Oper} {rest:List Oper} {L L':St} {K:St->Prop} {dst:Option Tmp} {d:Nat} {ty:TypeId} {pos:String} {af:Array Edge} {j:Nat} {w:Bool} {r:LV} {bk:Blk}
theorem s0ld {T:TypeId} {p:Operand} (h:OpP P L.heap L.ev (.load T p) r) (kk:opsL P dr ops rest (L.put dst r) K):opsL P dr ops (⟨dst,(.load T p),ty,pos,af,none⟩ :: rest) L K:=st_pure rfl h kk
theorem s1ld {T:TypeId} {p:Operand} (hg:GuardIs ops L ⟨dst,(.load T p),ty,pos,af,some (j,w)⟩ true) (h:OpP P L.heap L.ev (.load T p) r) (kk:opsL P dr ops rest (L.put dst r) K):opsL P dr ops (⟨dst,(.load T p),ty,pos,af,some (j,w)⟩ :: rest) L K:=st_pure hg h kk
theorem s0bi {o:BinOp} {T U:TypeId} {p y:Operand} (h:OpP P L.heap L.ev (.binOp o T p y U) r) (kk:opsL P dr ops rest (L.put dst r) K):opsL P dr ops (⟨dst,(.binOp o T p y U),ty,pos,af,none⟩ :: rest) L K:=st_pure rfl h kk
theorem s1bi {o:BinOp} {T U:TypeId} {p y:Operand} (hg:GuardIs ops L ⟨dst,(.binOp o T p y U),ty,pos,af,some (j,w)⟩ true) (h:OpP P L.heap L.ev (.binOp o T p y U) r) (kk:opsL P dr ops rest (L.put dst r) K):opsL P dr ops (⟨dst,(.binOp o T p y U),ty,pos,af,some (j,w)⟩ :: rest) L K:=st_pure hg h kk
theorem s0ln {b:Builtin} {xs:Array Operand} {as:Array TypeId} (h:OpP P L.heap L.ev (.call ⟨.builtin b,xs,as⟩) r) (kk:opsL P dr ops rest (L.put dst r) K):opsL P dr ops (⟨dst,(.call ⟨.builtin b,xs,as⟩),ty,pos,af,none⟩ :: rest) L K:=st_pure rfl h kk
theorem s1ln {b:Builtin} {xs:Array Operand} {as:Array TypeId} (hg:GuardIs ops L ⟨dst,(.call ⟨.builtin b,xs,as⟩),ty,pos,af,some (j,w)⟩ true) (h:OpP P L.heap L.ev (.call ⟨.builtin b,xs,as⟩) r) (kk:opsL P dr ops rest (L.put dst r) K):opsL P dr ops (⟨dst,(.call ⟨.builtin b,xs,as⟩),ty,pos,af,some (j,w)⟩ :: rest) L K:=st_pure hg h kk
theorem s0fa {T:TypeId} {p:Operand} {k:Nat} (h:OpP P L.heap L.ev (.fieldAddr T p k) r) (kk:opsL P dr ops rest (L.put dst r) K):opsL P dr ops (⟨dst,(.fieldAddr T p k),ty,pos,af,none⟩ :: rest) L K:=st_pure rfl h kk
theorem s1fa {T:TypeId} {p:Operand} {k:Nat} (hg:GuardIs ops L ⟨dst,(.fieldAddr T p k),ty,pos,af,some (j,w)⟩ true) (h:OpP P L.heap L.ev (.fieldAddr T p k) r) (kk:opsL P dr ops rest (L.put dst r) K):opsL P dr ops (⟨dst,(.fieldAddr T p k),ty,pos,af,some (j,w)⟩ :: rest) L K:=st_pure hg h kk
theorem s0ia {T:TypeId} {p y:Operand} (h:OpP P L.heap L.ev (.index T p y) r) (kk:opsL P dr ops rest (L.put dst r) K):opsL P dr ops (⟨dst,(.index T p y),ty,pos,af,none⟩ :: rest) L K:=st_pure rfl h kk
theorem s1ia {T:TypeId} {p y:Operand} (hg:GuardIs ops L ⟨dst,(.index T p y),ty,pos,af,some (j,w)⟩ true) (h:OpP P L.heap L.ev (.index T p y) r) (kk:opsL P dr ops rest (L.put dst r) K):opsL P dr ops (⟨dst,(.index T p y),ty,pos,af,some (j,w)⟩ :: rest) L K:=st_pure hg h kk
theorem s0ix {T:TypeId} {p y:Operand} (h:OpP P L.heap L.ev (.indexAddr T p y) r) (kk:opsL P dr ops rest (L.put dst r) K):opsL P dr ops (⟨dst,(.indexAddr T p y),ty,pos,af,none⟩ :: rest) L K:=st_pure rfl h kk
theorem s1ix {T:TypeId} {p y:Operand} (hg:GuardIs ops L ⟨dst,(.indexAddr T p y),ty,pos,af,some (j,w)⟩ true) (h:OpP P L.heap L.ev (.indexAddr T p y) r) (kk:opsL P dr ops rest (L.put dst r) K):opsL P dr ops (⟨dst,(.indexAddr T p y),ty,pos,af,some (j,w)⟩ :: rest) L K:=st_pure hg h kk
theorem s0ex {p:Operand} {k:Nat} (h:OpP P L.heap L.ev (.extract p k) r) (kk:opsL P dr ops rest (L.put dst r) K):opsL P dr ops (⟨dst,(.extract p k),ty,pos,af,none⟩ :: rest) L K:=st_pure rfl h kk
theorem s1ex {p:Operand} {k:Nat} (hg:GuardIs ops L ⟨dst,(.extract p k),ty,pos,af,some (j,w)⟩ true) (h:OpP P L.heap L.ev (.extract p k) r) (kk:opsL P dr ops rest (L.put dst r) K):opsL P dr ops (⟨dst,(.extract p k),ty,pos,af,some (j,w)⟩ :: rest) L K:=st_pure hg h kk
theorem s0pk {p y z:Operand} (h:OpP P L.heap L.ev (.pick p y z) r) (kk:opsL P dr ops rest (L.put dst r) K):opsL P dr ops (⟨dst,(.pick p y z),ty,pos,af,none⟩ :: rest) L K:=st_pure rfl h kk
theorem s1pk {p y z:Operand} (hg:GuardIs ops L ⟨dst,(.pick p y z),ty,pos,af,some (j,w)⟩ true) (h:OpP P L.heap L.ev (.pick p y z) r) (kk:opsL P dr ops rest (L.put dst r) K):opsL P dr ops (⟨dst,(.pick p y z),ty,pos,af,some (j,w)⟩ :: rest) L K:=st_pure hg h kk
theorem s0cv {T U:TypeId} {p:Operand} (h:OpP P L.heap L.ev (.convert T U p) r) (kk:opsL P dr ops rest (L.put dst r) K):opsL P dr ops (⟨dst,(.convert T U p),ty,pos,af,none⟩ :: rest) L K:=st_pure rfl h kk
theorem s1cv {T U:TypeId} {p:Operand} (hg:GuardIs ops L ⟨dst,(.convert T U p),ty,pos,af,some (j,w)⟩ true) (h:OpP P L.heap L.ev (.convert T U p) r) (kk:opsL P dr ops rest (L.put dst r) K):opsL P dr ops (⟨dst,(.convert T U p),ty,pos,af,some (j,w)⟩ :: rest) L K:=st_pure hg h kk
theorem s0un {u:UnOp} {T:TypeId} {p:Operand} (h:OpP P L.heap L.ev (.unOp u T p) r) (kk:opsL P dr ops rest (L.put dst r) K):opsL P dr ops (⟨dst,(.unOp u T p),ty,pos,af,none⟩ :: rest) L K:=st_pure rfl h kk
theorem s1un {u:UnOp} {T:TypeId} {p:Operand} (hg:GuardIs ops L ⟨dst,(.unOp u T p),ty,pos,af,some (j,w)⟩ true) (h:OpP P L.heap L.ev (.unOp u T p) r) (kk:opsL P dr ops rest (L.put dst r) K):opsL P dr ops (⟨dst,(.unOp u T p),ty,pos,af,some (j,w)⟩ :: rest) L K:=st_pure hg h kk
theorem s0fi {T:TypeId} {p:Operand} {k:Nat} (h:OpP P L.heap L.ev (.field T p k) r) (kk:opsL P dr ops rest (L.put dst r) K):opsL P dr ops (⟨dst,(.field T p k),ty,pos,af,none⟩ :: rest) L K:=st_pure rfl h kk
theorem s1fi {T:TypeId} {p:Operand} {k:Nat} (hg:GuardIs ops L ⟨dst,(.field T p k),ty,pos,af,some (j,w)⟩ true) (h:OpP P L.heap L.ev (.field T p k) r) (kk:opsL P dr ops rest (L.put dst r) K):opsL P dr ops (⟨dst,(.field T p k),ty,pos,af,some (j,w)⟩ :: rest) L K:=st_pure hg h kk
theorem s0nc {p:Operand} (h:OpP P L.heap L.ev (.nilCheck p) r) (kk:opsL P dr ops rest (L.put dst r) K):opsL P dr ops (⟨dst,(.nilCheck p),ty,pos,af,none⟩ :: rest) L K:=st_pure rfl h kk
theorem s1nc {p:Operand} (hg:GuardIs ops L ⟨dst,(.nilCheck p),ty,pos,af,some (j,w)⟩ true) (h:OpP P L.heap L.ev (.nilCheck p) r) (kk:opsL P dr ops rest (L.put dst r) K):opsL P dr ops (⟨dst,(.nilCheck p),ty,pos,af,some (j,w)⟩ :: rest) L K:=st_pure hg h kk
theorem s0bd {T:TypeId} {ps:Array (Nat × Operand)} (h:OpP P L.heap L.ev (.build T ps) r) (kk:opsL P dr ops rest (L.put dst r) K):opsL P dr ops (⟨dst,(.build T ps),ty,pos,af,none⟩ :: rest) L K:=st_pure rfl h kk
theorem s1bd {T:TypeId} {ps:Array (Nat × Operand)} (hg:GuardIs ops L ⟨dst,(.build T ps),ty,pos,af,some (j,w)⟩ true) (h:OpP P L.heap L.ev (.build T ps) r) (kk:opsL P dr ops rest (L.put dst r) K):opsL P dr ops (⟨dst,(.build T ps),ty,pos,af,some (j,w)⟩ :: rest) L K:=st_pure hg h kk
theorem s1mv {p:Operand} (hg:GuardIs ops L ⟨dst,(.move p),ty,pos,af,some (j,w)⟩ true) (h:OpP P L.heap L.ev (.move p) r) (kk:opsL P dr ops rest (L.put dst r) K):opsL P dr ops (⟨dst,(.move p),ty,pos,af,some (j,w)⟩ :: rest) L K:=st_pure hg h kk
theorem s1as {p:Operand} (hg:GuardIs ops L ⟨dst,(.assign p),ty,pos,af,some (j,w)⟩ true) (h:OpP P L.heap L.ev (.assign p) r) (kk:opsL P dr ops rest (L.put dst r) K):opsL P dr ops (⟨dst,(.assign p),ty,pos,af,some (j,w)⟩ :: rest) L K:=st_pure hg h kk
theorem s0bx {T:TypeId} {p:Operand} (hd:L.heap d=none) (h:OpA P L.ev d (.box T p) r bk) (kk:opsL P dr ops rest ((L.setB d (some bk)).put (some d) r) K):opsL P dr ops (⟨some d,(.box T p),ty,pos,af,none⟩ :: rest) L K:=st_alloc rfl hd h kk
theorem s1bx {T:TypeId} {p:Operand} (hg:GuardIs ops L ⟨some d,(.box T p),ty,pos,af,some (j,w)⟩ true) (hd:L.heap d=none) (h:OpA P L.ev d (.box T p) r bk) (kk:opsL P dr ops rest ((L.setB d (some bk)).put (some d) r) K):opsL P dr ops (⟨some d,(.box T p),ty,pos,af,some (j,w)⟩ :: rest) L K:=st_alloc hg hd h kk
theorem s0al {T:TypeId} (hd:L.heap d=none) (h:OpA P L.ev d (.alloc T) r bk) (kk:opsL P dr ops rest ((L.setB d (some bk)).put (some d) r) K):opsL P dr ops (⟨some d,(.alloc T),ty,pos,af,none⟩ :: rest) L K:=st_alloc rfl hd h kk
theorem s1al {T:TypeId} (hg:GuardIs ops L ⟨some d,(.alloc T),ty,pos,af,some (j,w)⟩ true) (hd:L.heap d=none) (h:OpA P L.ev d (.alloc T) r bk) (kk:opsL P dr ops rest ((L.setB d (some bk)).put (some d) r) K):opsL P dr ops (⟨some d,(.alloc T),ty,pos,af,some (j,w)⟩ :: rest) L K:=st_alloc hg hd h kk
theorem s0bs {T:TypeId} {n:Nat} {ps:Array (Nat × Operand)} (hd:L.heap d=none) (h:OpA P L.ev d (.buildSlice T n ps) r bk) (kk:opsL P dr ops rest ((L.setB d (some bk)).put (some d) r) K):opsL P dr ops (⟨some d,(.buildSlice T n ps),ty,pos,af,none⟩ :: rest) L K:=st_alloc rfl hd h kk
theorem s1bs {T:TypeId} {n:Nat} {ps:Array (Nat × Operand)} (hg:GuardIs ops L ⟨some d,(.buildSlice T n ps),ty,pos,af,some (j,w)⟩ true) (hd:L.heap d=none) (h:OpA P L.ev d (.buildSlice T n ps) r bk) (kk:opsL P dr ops rest ((L.setB d (some bk)).put (some d) r) K):opsL P dr ops (⟨some d,(.buildSlice T n ps),ty,pos,af,some (j,w)⟩ :: rest) L K:=st_alloc hg hd h kk
theorem s0sr {T:TypeId} {p y:Operand} (h:OpT P L dst (.store T p y) L') (kk:opsL P dr ops rest L' K):opsL P dr ops (⟨dst,.store T p y,ty,pos,af,none⟩ :: rest) L K:=st_store rfl h kk
theorem s1sr {T:TypeId} {p y:Operand} (hg:GuardIs ops L ⟨dst,.store T p y,ty,pos,af,some (j,w)⟩ true) (h:OpT P L dst (.store T p y) L') (kk:opsL P dr ops rest L' K):opsL P dr ops (⟨dst,.store T p y,ty,pos,af,some (j,w)⟩ :: rest) L K:=st_store hg h kk
theorem s1sk {op:Op} (hg:GuardIs ops L ⟨dst,op,ty,pos,af,some (j,w)⟩ false) (kk:opsL P dr ops rest (L.put dst (.tup [])) K):opsL P dr ops (⟨dst,op,ty,pos,af,some (j,w)⟩ :: rest) L K:=st_skip hg kk
end
theorem zGt {p:Prop} (h:p:=by first | exact guardX (v:=true) rfl rfl as0 rfl | exact guardX (v:=false) rfl rfl as0 rfl):p:=h
theorem zGf {p:Prop} (h:p:=by first | exact guardX (v:=true) rfl rfl as0 rfl | exact guardX (v:=false) rfl rfl as0 rfl | exact guardS rfl rfl):p:=h
theorem zSt {p q:Prop} (k:q) (h:Hold q->p:=by intro kk;first | (apply then_n;exact kk.h) | (apply wl_seq;exact kk.h) | (apply mv;exact kk.h) | (apply asg;exact kk.h) | (apply st_end;exact nf;exact kk.h) | (apply wl_reg;exact kk.h) | (apply s0ld;exact ldA;exact kk.h) | (apply s0bi;exact biA;exact kk.h) | (apply s0ln;exact lnA;exact kk.h) | (apply s0fa;exact faA;exact kk.h) | (apply s0ix;exact ixA;exact kk.h) | (apply s0ia;exact ixaA;exact kk.h) | (apply s0ex;exact .extract rfl rfl nt0;exact kk.h) | (apply s0sr;exact srA;exact kk.h) | (apply s0bx;exact rfl;(first | (apply OpA.bxE;exact rfl) | exact .box ne0);exact kk.h) | (apply s0al;exact rfl;(first | exact .alE | exact .alloc ZI.h);exact kk.h) | (apply s0pk;(first | exact .pickT rfl as0 | exact .pickF rfl as0);exact kk.h) | (apply s0cv;exact cvA;exact kk.h) | (apply s0un;(first | exact .not rfl | exact .neg rfl);exact kk.h) | (apply s0fi;(first | exact .field rfl SI.h rfl rfl | exact .field rfl (lays SI.h cs) rfl pu);exact kk.h) | (apply s0bs;exact rfl;(first | (apply OpA.l1;exact rfl;decide;decide) | exact .l0 | (apply OpA.l2;exact rfl;exact rfl;decide;decide) | (apply OpA.l3;exact rfl;exact rfl;exact rfl;decide;decide) | (apply OpA.l4;exact rfl;exact rfl;exact rfl;exact rfl;decide;decide));exact kk.h) | (apply s0bd;(first | exact .bda3 rfl rfl rfl | exact .bda4 rfl rfl rfl rfl | exact .bda2 rfl rfl | exact .bdq3 rfl rfl rfl | exact .buildSp SI.h ZI.h rfl rfl | exact .bd rfl nes | exact .bd cs nes2 | exact .bda laE nes2);exact kk.h) | (apply s0nc;(first | exact .nilChkE rfl | exact .nilChkB rfl);exact kk.h) | (apply wl_skip;exact kk.h) | (apply wl_block;exact kk.h) | (apply then_e;exact kk.h) | (apply blk_e;exact kk.h) | (apply blk_n;exact kk.h) | (apply wl_condX;exact rfl;exact as0;exact kk.h) | (apply wl_condY;exact rfl;exact as0;exact kk.h) | (apply wl_ret;exact kk.h) | (apply then_r;exact kk.h) | (apply wl_exit;exact kk.h) | (apply blk_r;exact kk.h) | (apply blk_o;decide;exact kk.h) | (apply s1sk;exact zGf;exact kk.h) | (apply s1mv;exact zGt;(exact .move _);exact kk.h) | (apply s1ld;exact zGt;(exact ldA);exact kk.h) | (apply s1bi;exact zGt;(exact biA);exact kk.h) | (apply s1ln;exact zGt;(exact lnA);exact kk.h) | (apply s1fa;exact zGt;(exact faA);exact kk.h) | (apply s1ix;exact zGt;(exact ixA);exact kk.h) | (apply s1ia;exact zGt;(exact ixaA);exact kk.h) | (apply s1ex;exact zGt;(exact .extract rfl rfl nt0);exact kk.h) | (apply s1sr;exact zGt;exact srA;exact kk.h) | (apply s1as;exact zGt;(exact .assign _);exact kk.h) | (apply s1bx;exact zGt;exact rfl;(first | (apply OpA.bxE;exact rfl) | exact .box ne0);exact kk.h) | (apply s1al;exact zGt;exact rfl;(first | exact .alE | exact .alloc ZI.h);exact kk.h) | (apply s1pk;exact zGt;(first | exact .pickT rfl as0 | exact .pickF rfl as0);exact kk.h) | (apply s1cv;exact zGt;(exact cvA);exact kk.h) | (apply s1un;exact zGt;(first | exact .not rfl | exact .neg rfl);exact kk.h) | (apply s1fi;exact zGt;(first | exact .field rfl SI.h rfl rfl | exact .field rfl (lays SI.h cs) rfl pu);exact kk.h) | (apply s1bs;exact zGt;exact rfl;(first | (apply OpA.l1;exact rfl;decide;decide) | exact .l0 | (apply OpA.l2;exact rfl;exact rfl;decide;decide) | (apply OpA.l3;exact rfl;exact rfl;exact rfl;decide;decide) | (apply OpA.l4;exact rfl;exact rfl;exact rfl;exact rfl;decide;decide));exact kk.h) | (apply s1bd;exact zGt;(first | exact .buildSp SI.h ZI.h rfl rfl | exact .bd rfl nes | exact .bd cs nes2 | exact .bda laE nes2);exact kk.h) | (apply s1nc;exact zGt;(first | exact .nilChkE rfl | exact .nilChkB rfl);exact kk.h)):p:=h ⟨k⟩
theorem zg1 {p q:Prop} (k:q) (h:Hold q->p:=by intro hq;(iterate 1 refine zSt ?_);exact hq.h):p:=h ⟨k⟩
theorem zg2 {p q:Prop} (k:q) (h:Hold q->p:=by intro hq;(iterate 2 refine zSt ?_);exact hq.h):p:=h ⟨k⟩
theorem zg3 {p q:Prop} (k:q) (h:Hold q->p:=by intro hq;(iterate 3 refine zSt ?_);exact hq.h):p:=h ⟨k⟩
theorem zg4 {p q:Prop} (k:q) (h:Hold q->p:=by intro hq;(iterate 4 refine zSt ?_);exact hq.h):p:=h ⟨k⟩
theorem zg5 {p q:Prop} (k:q) (h:Hold q->p:=by intro hq;(iterate 5 refine zSt ?_);exact hq.h):p:=h ⟨k⟩
theorem zg6 {p q:Prop} (k:q) (h:Hold q->p:=by intro hq;(iterate 6 refine zSt ?_);exact hq.h):p:=h ⟨k⟩
theorem zg7 {p q:Prop} (k:q) (h:Hold q->p:=by intro hq;(iterate 7 refine zSt ?_);exact hq.h):p:=h ⟨k⟩
theorem zg8 {p q:Prop} (k:q) (h:Hold q->p:=by intro hq;(iterate 8 refine zSt ?_);exact hq.h):p:=h ⟨k⟩
theorem zg9 {p q:Prop} (k:q) (h:Hold q->p:=by intro hq;(iterate 9 refine zSt ?_);exact hq.h):p:=h ⟨k⟩
theorem zg10 {p q:Prop} (k:q) (h:Hold q->p:=by intro hq;(iterate 10 refine zSt ?_);exact hq.h):p:=h ⟨k⟩
theorem zg11 {p q:Prop} (k:q) (h:Hold q->p:=by intro hq;(iterate 11 refine zSt ?_);exact hq.h):p:=h ⟨k⟩
theorem zg12 {p q:Prop} (k:q) (h:Hold q->p:=by intro hq;(iterate 12 refine zSt ?_);exact hq.h):p:=h ⟨k⟩
theorem zg13 {p q:Prop} (k:q) (h:Hold q->p:=by intro hq;(iterate 13 refine zSt ?_);exact hq.h):p:=h ⟨k⟩
theorem zg14 {p q:Prop} (k:q) (h:Hold q->p:=by intro hq;(iterate 14 refine zSt ?_);exact hq.h):p:=h ⟨k⟩
theorem zg15 {p q:Prop} (k:q) (h:Hold q->p:=by intro hq;(iterate 15 refine zSt ?_);exact hq.h):p:=h ⟨k⟩
theorem zg16 {p q:Prop} (k:q) (h:Hold q->p:=by intro hq;(iterate 16 refine zSt ?_);exact hq.h):p:=h ⟨k⟩
theorem zg17 {p q:Prop} (k:q) (h:Hold q->p:=by intro hq;(iterate 17 refine zSt ?_);exact hq.h):p:=h ⟨k⟩
theorem zg18 {p q:Prop} (k:q) (h:Hold q->p:=by intro hq;(iterate 18 refine zSt ?_);exact hq.h):p:=h ⟨k⟩
theorem zg19 {p q:Prop} (k:q) (h:Hold q->p:=by intro hq;(iterate 19 refine zSt ?_);exact hq.h):p:=h ⟨k⟩
theorem zg20 {p q:Prop} (k:q) (h:Hold q->p:=by intro hq;(iterate 20 refine zSt ?_);exact hq.h):p:=h ⟨k⟩
theorem zg21 {p q:Prop} (k:q) (h:Hold q->p:=by intro hq;(iterate 21 refine zSt ?_);exact hq.h):p:=h ⟨k⟩
theorem zg22 {p q:Prop} (k:q) (h:Hold q->p:=by intro hq;(iterate 22 refine zSt ?_);exact hq.h):p:=h ⟨k⟩
theorem zg23 {p q:Prop} (k:q) (h:Hold q->p:=by intro hq;(iterate 23 refine zSt ?_);exact hq.h):p:=h ⟨k⟩
theorem zg24 {p q:Prop} (k:q) (h:Hold q->p:=by intro hq;(iterate 24 refine zSt ?_);exact hq.h):p:=h ⟨k⟩
theorem zg25 {p q:Prop} (k:q) (h:Hold q->p:=by intro hq;(iterate 25 refine zSt ?_);exact hq.h):p:=h ⟨k⟩
theorem zg27 {p q:Prop} (k:q) (h:Hold q->p:=by intro hq;(iterate 27 refine zSt ?_);exact hq.h):p:=h ⟨k⟩
theorem zg28 {p q:Prop} (k:q) (h:Hold q->p:=by intro hq;(iterate 28 refine zSt ?_);exact hq.h):p:=h ⟨k⟩
theorem zg31 {p q:Prop} (k:q) (h:Hold q->p:=by intro hq;(iterate 31 refine zSt ?_);exact hq.h):p:=h ⟨k⟩
theorem zg33 {p q:Prop} (k:q) (h:Hold q->p:=by intro hq;(iterate 33 refine zSt ?_);exact hq.h):p:=h ⟨k⟩
theorem zg34 {p q:Prop} (k:q) (h:Hold q->p:=by intro hq;(iterate 34 refine zSt ?_);exact hq.h):p:=h ⟨k⟩
theorem zg49 {p q:Prop} (k:q) (h:Hold q->p:=by intro hq;(iterate 49 refine zSt ?_);exact hq.h):p:=h ⟨k⟩
theorem zg54 {p q:Prop} (k:q) (h:Hold q->p:=by intro hq;(iterate 54 refine zSt ?_);exact hq.h):p:=h ⟨k⟩
theorem zg57 {p q:Prop} (k:q) (h:Hold q->p:=by intro hq;(iterate 57 refine zSt ?_);exact hq.h):p:=h ⟨k⟩
end Go.Lg
end
