/- Texts LgY, LgR, LgG of this proof, joined. -/
import Derived.Test.YtckppbhafancnaaGreatQN2
import Derived.Laws.Cover3
set_option linter.unusedVariables false
set_option linter.unusedSimpArgs false
section
set_option linter.unusedVariables false
set_option linter.unusedSimpArgs false
namespace Go.Lg
def val:List Nat->Nat
 | []=>0
 | x :: xs=>x+4294967296*val xs
def bM (l:List Nat):Prop:=∀ x∈l,x<4294967296
def y7:Nat->Nat->List Nat
 | 0,_=>[]
 | k+1,n=>if n=0 then [] else n % 4294967296 :: y7 k (n/4294967296)
def al (n:Nat):List Nat:=y7 n n
theorem ael:∀ k,y7 k 0=[]
 | 0=>rfl
 | k+1=>by simp [y7]
theorem aoL:∀ (k j n:Nat),n<=k->n<=j->y7 k n=y7 j n
 | 0,j,n,h,_=>by
   have:n=0:=by omega
   subst this;rw [ael,ael]
 | k+1,0,n,_,h=>by
   have:n=0:=by omega
   subst this;rw [ael,ael]
 | k+1,j+1,n,h1,h2=>by
   simp only [y7]
   split
   ·rfl
   ·rw [aoL k j (n/4294967296) J J]
theorem tc:al 0=[]:=rfl
theorem zb {n:Nat} (h:0<n):al n=n % 4294967296 :: al (n/4294967296):=by
 unfold al
 obtain⟨k,rfl⟩:∃ k,n=k+1:=⟨n-1,J⟩
 rw [y7,if_neg J,aoL k ((k+1)/4294967296) _ J (Nat.le_refl _)]
theorem bU (n:Nat):val (al n)=n:=by
 induction n using Nat.strongRecOn with
 | _ n ih =>
  by_cases h:n=0
  ·subst h;rfl
  ·rw [zb J,val,ih (n/4294967296) J];omega
theorem cE (n:Nat):bM (al n):=by
 induction n using Nat.strongRecOn with
 | _ n ih =>
  by_cases h:n=0
  ·subst h;intro x hx;cases hx
  ·rw [zb J]
   intro x hx
   rcases List.mem_cons.1 hx with rfl | hx
   ·omega
   ·exact ih _ J x hx
def Can (l:List Nat):Prop:=∀ h:l≠[],l.getLast h≠0
theorem ac4 (n:Nat):Can (al n):=by
 induction n using Nat.strongRecOn with
 | _ n ih =>
  by_cases h:n=0
  ·subst h;intro h;exact absurd rfl h
  ·rw [zb J]
   intro aQ
   by_cases h2:n/4294967296=0
   ·have e:al (n/4294967296)=[]:=by rw [h2];rfl
    simp only [e,List.getLast_singleton];omega
   ·have alj:al (n/4294967296)≠[]:=by rw [zb J];simp
    rw [List.getLast_cons alj]
    exact ih _ J alj
theorem arQ {x:Nat} {xs:List Nat} (h:Can (x :: xs)):Can xs:=fun aQ=>by
 have:=h (List.cons_ne_nil _ _)
 rwa [List.getLast_cons aQ] at this
theorem apx:∀ {l:List Nat},Can l->l≠[]->0<val l
 | [],_,h=>absurd rfl h
 | [x],h,_=>by have:=h aO;simp at this;simp [val];omega
 | x :: y :: l,h,_=>by
   have:=apx (arQ h) aO
   simp only [val] at this ⊢;omega
theorem aqf:∀ {l:List Nat},bM l->Can l->al (val l)=l
 | [],_,_=>rfl
 | x :: xs,h1,h2=>by
   have hp:=apx h2 aO
   have hx:=h1 x aO
   have ih:=aqf (l:=xs) (fun y hy=>h1 y (by simp [hy])) (arQ h2)
   rw [zb hp]
   have e1:val (x :: xs) % 4294967296=x:=by simp only [val];omega
   have e2:val (x :: xs)/4294967296=val xs:=by simp only [val];omega
   rw [e1,e2,ih]
theorem zQ:∀ {l:List Nat},bM l->val l<4294967296 ^ l.length
 | [],_=>by simp [val]
 | x :: xs,h=>by
   have ih:=zQ (l:=xs) (fun y hy=>h y (by simp [hy]))
   have hx:=h x aO
   simp only [val,List.length_cons,Nat.pow_succ]
   have:val xs+1<=4294967296 ^ xs.length:=ih
   have:=Nat.mul_le_mul_right 4294967296 this
   omega
theorem adF:∀ (l m:List Nat),val (l++m)=val l+4294967296 ^ l.length*val m
 | [],m=>by simp [val]
 | x :: xs,m=>by
   simp only [List.cons_append,val,adF xs m,List.length_cons,Nat.pow_succ]
   rw [Nat.mul_add,<-Nat.mul_assoc,Nat.mul_comm 4294967296 (4294967296 ^ xs.length)];omega
theorem aeV:∀ k,val (List.replicate k 0)=0
 | 0=>rfl
 | k+1=>by simp [List.replicate_succ,val,aeV k]
theorem u6 {n k:Nat} (h:n<4294967296 ^ k):(al n).length<=k:=by
 induction k generalizing n with
 | zero =>
      have:n=0:=by simpa using h
      subst this;simp [tc]
 | succ k ih =>
  by_cases h0:n=0
  ·subst h0;simp [tc]
  ·rw [zb J,List.length_cons]
   have:=ih (n:=n/4294967296) (by rw [Nat.div_lt_iff_lt_mul J];rwa [<-Nat.pow_succ])
   omega
theorem rj {n k:Nat} (h:(al n).length<=k):n<4294967296 ^ k:=by
 have h1:=zQ (cE n)
 rw [bU] at h1
 exact Nat.lt_of_lt_of_le h1 (Nat.pow_le_pow_right J h)
theorem aru {n k:Nat}:(al n).length<=k↔n<4294967296 ^ k:=⟨rj,u6⟩
theorem pw {n:Nat}:al n=[]↔n=0:=by
 constructor
 ·intro h;have:=bU n;rw [h] at this;exact this.symm
 ·rintro rfl;rfl
theorem apB {l m:List Nat} (h1:bM l) (h2:bM m):bM (l++m):=fun x hx=>by
 rcases List.mem_append.1 hx with h | h
 ·exact h1 x h
 ·exact h2 x h
theorem tT {l:List Nat} (h:bM l) (k:Nat):bM (l.take k):=fun x hx=>h x (List.mem_of_mem_take hx)
theorem aBE {l:List Nat} (h:bM l) (k:Nat):bM (l.drop k):=fun x hx=>h x (List.mem_of_mem_drop hx)
theorem sv (k:Nat):bM (List.replicate k 0):=fun x hx=>by rw [(List.mem_replicate.1 hx).2];omega
theorem av0 {l:List Nat} (h:bM l) (k:Nat):l.getD k 0<4294967296:=by
 rw [List.getD_eq_getElem?_getD]
 cases hq:l[k]? with
 | none=>simp
 | some x=>simpa using h x (List.mem_of_getElem? hq)
theorem apY {l:List Nat} {k:Nat} (h:k<l.length):val (l.take (k+1))=val (l.take k)+4294967296 ^ k*l.getD k 0:=by
 rw [List.take_succ_eq_append_getElem h,adF,List.length_take,Nat.min_eq_left J,List.getD_eq_getElem?_getD,List.getElem?_eq_getElem h]
 simp [val]
def ig:Nat->List Nat->Nat
 | 0,_=>0
 | n+1,l=>if l.getD n 0=0 then ig n l else n+1
theorem aiy:∀ (n:Nat) (l:List Nat),ig n l<=n
 | 0,_=>by simp [ig]
 | n+1,l=>by simp only [ig];split;have:=aiy n l;omega;omega
theorem aej:∀ (n:Nat) (l:List Nat),n<=l.length->Can (l.take (ig n l))/\val (l.take (ig n l))=val (l.take n)
 | 0,l,_=>by simp [ig,Can]
 | n+1,l,h=>by
   simp only [ig]
   split
   ·rename_i h0
    have ih:=aej n l J
    refine⟨ih.1,ih.2.trans ?_⟩
    rw [apY J,h0];simp
   ·rename_i h0
    refine⟨fun aQ=>?_,rfl⟩
    rw [List.getLast_eq_getElem]
    simp only [List.length_take,Nat.min_eq_left h,Nat.add_sub_cancel,List.getElem_take]
    rw [List.getD_eq_getElem?_getD,List.getElem?_eq_getElem J] at h0
    exact h0
def vr (l:List Nat):List Nat:=l.take (ig l.length l)
theorem sZ {l:List Nat} (h:bM l):vr l=al (val l):=by
 have:=aej l.length l (Nat.le_refl _)
 rw [List.take_length] at this
 rw [<-this.2]
 exact(aqf (tT h _) this.1).symm
def bh (n:Nat):LV:=.v (.int .u32 n)
def eW (n:Int):LV:=.v (.int .i64 n)
theorem eZ:gE bh 1 false:=⟨fun _=>rfl,fun _=>rfl,fun _=>rfl⟩
theorem m8:gE eW 1 false:=⟨fun _=>rfl,fun _=>rfl,fun _=>rfl⟩
def ee (l:List Nat):LV:=.list 1 (l.map bh)
def ba (n:Nat):LV:=.list 1 ((al n).map bh)
theorem iN (n:Nat):(ba n).pure=true:=by simp only [ba,LV.pure];exact aW eZ _
def iG (q:Rat):Nat:=if q.den=1 then 0 else q.den
@[irreducible] def ae (q:Rat):LV:=.agg [.v (.bool (decide (q<0))),ba q.num.natAbs,ba (iG q)]
theorem sB (q:Rat):ae q=.agg [.v (.bool (decide (q<0))),ba q.num.natAbs,ba (iG q)]:=by unfold ae;rfl
theorem ao:gE ae 3 true:=by
 refine⟨fun q=>?_,fun q=>?_,fun q=>?_⟩
 ·rw [sB];rfl
 ·rw [sB];rfl
 ·rw [sB];simp [LV.pure,aG,iN]
theorem axJ (q:Rat):(ae q).at 0 1 false=some (.v (.bool (decide (q<0)))):=by rw [sB];rfl
theorem auz (q:Rat):(ae q).at 1 1 false=some (ba q.num.natAbs):=by rw [sB];rfl
theorem aun (q:Rat):(ae q).at 2 1 false=some (ba (iG q)):=by rw [sB];rfl
theorem nK (q:Rat):(ae q).at 0 3 true=some (ae q):=by
 have:=aiQ (ae q) (ao.pure q)
 rwa [ao.au,ao.isAgg] at this
theorem oa:ae 0=.agg [.v (.bool false),.list 1 [],.list 1 []]:=by rw [sB];rfl
@[irreducible] def aD (s:Rat × Rat):LV:=.agg [ae s.1,ae s.2]
theorem uw (s:Rat × Rat):aD s=.agg [ae s.1,ae s.2]:=by unfold aD;rfl
theorem bS:gE aD 6 true:=by
 refine⟨fun s=>?_,fun s=>?_,fun s=>?_⟩<;>rw [uw]<;>simp [LV.au,cF,LV.isAgg,LV.pure,aG,ao.au,ao.pure]
theorem yh (s:Rat × Rat):(aD s).at 0 6 true=some (aD s):=by
 have:=aiQ (aD s) (bS.pure s)
 rwa [bS.au,bS.isAgg] at this
theorem alb (s:Rat × Rat):(aD s).at 0 3 true=some (ae s.1):=by
 rw [uw];simp [LV.at,q8,cF,ao.au,nK]
theorem akX (s:Rat × Rat):(aD s).at 3 3 true=some (ae s.2):=by
 rw [uw];simp [LV.at,q8,cF,ao.au,nK]
theorem cH (q:Rat) (b:Nat):(ae q).kill b=ae q:=LV.kt b _ (ao.pure q)
theorem aP {α:Type} {e:α->LV} {sz:Nat} {ag:Bool} (h:gE e sz ag) (b:Nat) (l:List α):bN b (l.map e)=l.map e:=adj b _ (aW h l)
theorem dO (q:Rat × Rat) (b:Nat):(aD q).kill b=aD q:=LV.kt b _ (bS.pure q)
section
variable {Z:Nat->Prop} {μ:Nat->Option Nat} {w:World}
theorem fp {x:Value} (h:x.oneCell'=true):ay Z μ w (.v x) [x]:=by simp only [ay];exact⟨trivial,h⟩
theorem abH (sz:Nat):ay Z μ w (.list sz []) [.slice none 0 0]:=by simp only [ay];exact⟨none,0,0,rfl,rfl,Nat.le_refl _,.inl trivial,rfl⟩
theorem ec {l:List LV} {cs:List Value} (h:b7 Z μ w l cs):ay Z μ w (.agg l) cs:=by simp only [ay];exact h
theorem eg:b7 Z μ w [] []:=by simp only [b7]
theorem bn {x:LV} {xs:List LV} {c1 c2:List Value} (h1:c1.length=x.au) (h2:ay Z μ w x c1) (h3:b7 Z μ w xs c2):b7 Z μ w (x :: xs) (c1++c2):=by
 simp only [b7];exact⟨c1,c2,rfl,h1,h2,h3⟩
theorem db:ay Z μ w (ae 0) [.bool false,.slice none 0 0,.slice none 0 0]:=by
 rw [oa]
 exact ec (bn (c1:=[.bool false]) rfl (fp rfl) (bn (c1:=[.slice none 0 0]) rfl (abH 1) (bn (c1:=[.slice none 0 0]) rfl (abH 1) eg)))
end
end Go.Lg
namespace Go.Lg
abbrev cC (n:Nat):LV:=.v (.int .u64 ((n:Nat):Int))
abbrev nM (n:Nat):LV:=.v (.int .u32 ((n:Nat):Int))
abbrev ah (n:Nat):LV:=.v (.int .i64 ((n:Nat):Int))
abbrev bL (b:Bool):LV:=.v (.bool b)
abbrev iL (n:Int):LV:=.v (.int .i64 n)
section
variable {a b:Nat}
theorem aql (h:a+b<18446744073709551616):dk .add .u64 (a:Nat) (b:Nat)=some (.int .u64 ((a+b:Nat):Int)):=by
 simp only [dk];rw [IntWalk.u64_in _ J];simp
theorem abL (h:a*b<18446744073709551616):dk .mul .u64 (a:Nat) (b:Nat)=some (.int .u64 ((a*b:Nat):Int)):=by
 simp only [dk]
 have e:((a:Int)*(b:Int))=((a*b:Nat):Int):=by simp
 rw [e,IntWalk.u64_in _ J]
theorem amf (h:b<=a) (h1:a<18446744073709551616):dk .sub .u64 (a:Nat) (b:Nat)=some (.int .u64 ((a-b:Nat):Int)):=by
 simp only [dk];rw [IntWalk.u64_in _ J];congr 2;omega
theorem ab2 (h:b<=18446744073709551616):dk .sub .u64 (a:Nat) (b:Nat)=some (.int .u64 (((18446744073709551616+a-b) % 18446744073709551616:Nat):Int)):=by
 simp only [dk];rw [IntKind.wrap_u64];congr 2;omega
theorem aed (h:0<b) (h1:a<18446744073709551616):dk .quo .u64 (a:Nat) (b:Nat)=some (.int .u64 ((a/b:Nat):Int)):=by
 have e:((a:Int).tdiv (b:Int))=((a/b:Nat):Int):=by simp
 have h2:a/b<=a:=Nat.div_le_self a b
 simp only [dk];rw [if_neg J,e,IntWalk.u64_in _ ⟨Int.natCast_nonneg _,J⟩]
theorem ajN (h:0<b):dk .rem .u64 (a:Nat) (b:Nat)=some (.int .u64 ((a % b:Nat):Int)):=by
 simp only [dk];rw [if_neg J];congr 2
theorem abQ (h:a*4294967296<18446744073709551616):nD .shl .u64 (a:Nat) 32=some (.int .u64 ((a*4294967296:Nat):Int)):=by
 have e:(2:Int) ^ min (32:Int).toNat IntKind.u64.bits=4294967296:=by decide
 simp only [nD]
 rw [if_neg J,e,IntWalk.u64_in _ J];simp
theorem aC2:nD .shr .u64 (a:Nat) 32=some (.int .u64 ((a/4294967296:Nat):Int)):=by
 have e:(2:Int) ^ min (32:Int).toNat IntKind.u64.bits=4294967296:=by decide
 simp only [nD]
 rw [if_neg J,e,Int.fdiv_eq_ediv_of_nonneg _ J]
 congr 2
theorem as1:nD .shr .u64 (a:Nat) 63=some (.int .u64 ((a/9223372036854775808:Nat):Int)):=by
 have e:(2:Int) ^ min (63:Int).toNat IntKind.u64.bits=9223372036854775808:=by decide
 simp only [nD]
 rw [if_neg J,e,Int.fdiv_eq_ediv_of_nonneg _ J]
 congr 2
theorem yB (n w:Nat):(BitVec.ofInt w (n:Int))=BitVec.ofNat w n:=by simp
theorem orU {x:Nat} (hb:b<4294967296) (hx:x<4294967296):dk .or .u64 ((x*4294967296:Nat):Int) (b:Nat)=some (.int .u64 ((x*4294967296+b:Nat):Int)):=by
 have e:(BitVec.ofInt IntKind.u64.bits ((x*4294967296:Nat):Int) ||| BitVec.ofInt IntKind.u64.bits (b:Int)).toNat=x*4294967296+b:=by
  rw [yB,yB,BitVec.toNat_or,BitVec.toNat_ofNat,BitVec.toNat_ofNat]
  have e1:x*4294967296 % 2 ^ IntKind.u64.bits=x*4294967296:=Nat.mod_eq_of_lt (by show _<18446744073709551616;omega)
  have e2:b % 2 ^ IntKind.u64.bits=b:=Nat.mod_eq_of_lt (by show _<18446744073709551616;omega)
  rw [e1,e2]
  have:=Nat.shiftLeft_add_eq_or_of_lt (i:=32) (b:=b) (by simpa using hb) x
  rw [Nat.shiftLeft_eq] at this
  exact this.symm
 simp only [dk,e]
 rw [IntWalk.u64_in _ J]
theorem wrap32:IntKind.u32.wrap (a:Nat)=((a % 4294967296:Nat):Int):=by rw [IntKind.wrap_u32];omega
theorem wrap64 (h:a<18446744073709551616):IntKind.u64.wrap (a:Nat)=(a:Int):=IntWalk.u64_in _ J
theorem sb {x y:Nat} (hx:x<4294967296) (hy:y<4294967296):x*y<=18446744065119617025:=by
 have:=Nat.mul_le_mul (Nat.le_sub_one_of_lt hx) (Nat.le_sub_one_of_lt hy)
 simpa using this
end
section
variable {P:Program} {H:bK} {ρ:Operand->LV} {S D:TypeId} {x:Operand} {n:Nat} {k':IntKind}
theorem aB.azR {α:Type} {e:α->LV} {sz:Nat} {l:List α} {T:TypeId} {d:TypeId} {as:Array TypeId} (hx:ρ x=.list sz (l.map e)) (has:as=#[T]) (hT:P.underlying T=some (.slice d)) :
  aB P H ρ (.call ⟨.builtin .len,#[x],as⟩) (ah l.length):=by
 have:=aB.xb (H:=H) hx has hT
 rwa [List.length_map] at this
theorem aB.ayd {d:TypeDesc} (hS:P.underlying S=some d) (hD:P.underlying D=some (.int .u32)) (hx:ρ x=.v (.int k' (n:Nat))):aB P H ρ (.convert S D x) (nM (n % 4294967296)):=by
 have:=aB.conv (H:=H) hS hD hx
 rwa [wrap32] at this
theorem aB.aep {d:TypeDesc} (hS:P.underlying S=some d) (hD:P.underlying D=some (.int .u64)) (hx:ρ x=.v (.int k' (n:Nat))) (h:n<18446744073709551616):aB P H ρ (.convert S D x) (cC n):=by
 have:=aB.conv (H:=H) hS hD hx
 rwa [wrap64 h] at this
theorem aB.cvI {d:TypeDesc} {m:Int} (hS:P.underlying S=some d) (hD:P.underlying D=some (.int .i64)) (hx:ρ x=.v (.int k' m)) (h1:-9223372036854775808<=m) (h2:m<=9223372036854775807):aB P H ρ (.convert S D x) (iL m):=by
 have:=aB.conv (H:=H) hS hD hx
 rwa [IntWalk.i64_in _ ⟨h1,h2⟩] at this
end
section
variable {P:Program} {Q:iS->St->Prop} {L L0:St} {K:St->Prop} {dr:Bool} {ops:Array Oper} {l:List Oper}
theorem aA3 {d:Nat} {b:Bool} (h:L.slot d=.v (.bool b)) (ht:b=true->opsL P dr ops l L K) (hf:b=false->opsL P dr ops l L K):opsL P dr ops l L K:=by
 cases b with
 | true=>exact ht rfl
 | false=>exact hf rfl
theorem bY {c:Operand} {x y:Code} {b:Bool} (hc:L.ev c=.v (.bool b)) (hb:b=true) (h:cx P x Q L):cx P (.cond c x y) Q L:=agL hc (fun _=>h) (fun e=>by rw [hb] at e;cases e)
theorem eE {c:Operand} {x y:Code} {b:Bool} (hc:L.ev c=.v (.bool b)) (hb:b=false) (h:cx P y Q L):cx P (.cond c x y) Q L:=agL hc (fun e=>by rw [hb] at e;cases e) (fun _=>h)
end
theorem aw.own {L:St} {t:Nat} (d sz:Nat) (h:L.slot t=.v (.slice none 0 0)) (hd:L.heap d=none):aw L ((L.bG d (some ⟨sz,[],true⟩)).put (some t) (.ref d sz 0 0)):=by
 rintro n W X Z0 a w ⟨dL,bD,μ,Z,hc,hr⟩
 refine⟨dL,bD,μ,Z,?_,fun s=>?_⟩
 ·rw [jU]
  refine hc.ae6 fun c id ur=>?_
  have:c≠d:=by rintro rfl;rw [rP hc hd] at ur;cases ur
  simp [St.bG,this]
 ·rw [fQ]
  split
  ·rename_i cQ
   subst cQ
   have e:=hr s
   rw [h] at e
   rw [e.dP]
   exact⟨by simp [LV.isAgg],fun _=>by simp [ay]⟩
  ·exact hr s
theorem aw.any (L:St) (t:Nat):aw L (L.put (some t) .any):=by
 rintro n W X Z0 a w ⟨dL,bD,μ,Z,hc,hr⟩
 refine⟨dL,bD,μ,Z,by rw [jU];exact hc,fun s=>?_⟩
 rw [fQ]
 split
 ·trivial
 ·exact hr s
def hp:List (Nat × a8)->bK
 | [],_=>none
 | (b,x) :: l,c=>bif Nat.beq c b then some x else hp l c
def ins (b:Nat) (x:a8):List (Nat × a8)->List (Nat × a8)
 | []=>[(b,x)]
 | (c,y) :: l=>bif Nat.beq c b then(b,x) :: l else(c,y) :: ins b x l
def mR (b:Nat):List (Nat × a8)->List (Nat × a8)
 | []=>[]
 | (c,y) :: l=>bif Nat.beq c b then mR b l else(c,⟨y.sz,bN b y.vals,y.mt⟩) :: mR b l
def uI (bs:List Nat):List (Nat × a8)->List (Nat × a8)
 | []=>[]
 | (c,y) :: l=>(c,⟨y.sz,y.vals,y.mt && !bs.contains c⟩) :: uI bs l
theorem beq_eq {a b:Nat} (h:Nat.beq a b=true):a=b:=Nat.eq_of_beq_eq_true h
theorem sC (a:Nat):Nat.beq a a=true:=by rw [Nat.beq_eq]
theorem ob {a b:Nat} (h:a≠b):Nat.beq a b=false:=by rw [<-Bool.not_eq_true,Nat.beq_eq];exact h
theorem alQ (b:Nat) (x:a8):∀ (l:List (Nat × a8)) (c:Nat),hp (ins b x l) c=if c=b then some x else hp l c
 | [],c=>by
   simp only [ins,hp]
   by_cases h:c=b
   ·subst h;rw [sC];simp
   ·rw [ob h,if_neg h];rfl
 | (d,y) :: l,c=>by
   simp only [ins]
   by_cases s9:d=b
   ·subst s9
    rw [sC]
    simp only [cond_true,hp]
    by_cases h:c=d
    ·subst h;rw [sC];simp
    ·rw [ob h,if_neg h];rfl
   ·rw [ob s9]
    simp only [cond_false,hp,alQ b x l c]
    by_cases h:c=d
    ·subst h;rw [sC];simp [s9]
    ·rw [ob h];rfl
theorem af6 (b:Nat):∀ (l:List (Nat × a8)) (c:Nat),hp (mR b l) c=if c=b then none else(hp l c).map fun blk=>⟨blk.sz,bN b blk.vals,blk.mt⟩
 | [],c=>by simp [mR,hp]
 | (d,y) :: l,c=>by
   simp only [mR]
   by_cases s9:d=b
   ·subst s9
    rw [sC]
    simp only [cond_true,af6 d l c,hp]
    by_cases h:c=d
    ·rw [if_pos h,if_pos h]
    ·rw [if_neg h,if_neg h,ob h];rfl
   ·rw [ob s9]
    simp only [cond_false,hp,af6 b l c]
    by_cases h:c=d
    ·subst h;rw [sC];simp [s9]
    ·rw [ob h];rfl
theorem arP (bs:List Nat):∀ (l:List (Nat × a8)) (c:Nat),hp (uI bs l) c=(hp l c).map fun blk=>⟨blk.sz,blk.vals,blk.mt && !bs.contains c⟩
 | [],c=>rfl
 | (d,y) :: l,c=>by
   simp only [uI,hp,arP bs l c]
   by_cases h:c=d
   ·subst h;rw [sC];rfl
   ·rw [ob h];rfl
theorem b1 (s:Nat->LV) (l:List (Nat × a8)) (b:Nat) (x:a8):(St.mk s (hp l)).bG b (some x)=St.mk s (hp (ins b x l)):=by
 simp only [St.bG,St.mk.injEq,true_and];funext c;rw [alQ]
theorem b2 (L:St) (t:Nat) (r:LV) (b:Nat) (x:Option a8):(L.put (some t) r).bG b x=(L.bG b x).put (some t) r:=rfl
theorem b3 (s:Nat->LV) (l:List (Nat × a8)) (b:Nat):(St.mk s (hp l)).kill b=St.mk (fun t=>(s t).kill b) (hp (mR b l)):=by
 simp only [St.kill,St.mk.injEq,true_and];funext c;rw [af6]
theorem b4 (L:St) (t:Nat) (r:LV) (b:Nat):(L.put (some t) r).kill b=(L.kill b).put (some t) (r.kill b):=by
 simp only [St.kill,St.put,St.mk.injEq,and_true]
 funext s
 cases Nat.beq s t<;>rfl
theorem b5 (s:Nat->LV) (l:List (Nat × a8)) (bs:List Nat):(St.mk s (hp l)).bR bs=St.mk s (hp (uI bs l)):=by
 simp only [St.bR,St.mk.injEq,true_and];funext c;rw [arP]
theorem b6 (L:St) (t:Nat) (r:LV) (bs:List Nat):(L.put (some t) r).bR bs=(L.bR bs).put (some t) r:=rfl
theorem i1 (b:Nat) (x:a8):ins b x []=[(b,x)]:=rfl
theorem i2 (b c:Nat) (x y:a8) (l:List (Nat × a8)) (h:(c==b)=true):ins b x ((c,y) :: l)=(b,x) :: l:=by
 simp only [beq_iff_eq] at h;simp only [ins,h,sC,cond_true]
theorem i3 (b c:Nat) (x y:a8) (l:List (Nat × a8)) (h:(c==b)=false):ins b x ((c,y) :: l)=(c,y) :: ins b x l:=by
 have h':c≠b:=by simpa using h
 simp only [ins,ob h',cond_false]
theorem i4 (b:Nat):mR b []=[]:=rfl
theorem i5 (b c:Nat) (y:a8) (l:List (Nat × a8)) (h:(c==b)=true):mR b ((c,y) :: l)=mR b l:=by
 simp only [beq_iff_eq] at h;simp only [mR,h,sC,cond_true]
theorem i6 (b c:Nat) (y:a8) (l:List (Nat × a8)) (h:(c==b)=false):mR b ((c,y) :: l)=(c,⟨y.sz,bN b y.vals,y.mt⟩) :: mR b l:=by
 have h':c≠b:=by simpa using h
 simp only [mR,ob h',cond_false]
theorem bC {L:St} {l:List (Nat × a8)} (h:L.heap=hp l):St.mk L.slot (hp l)=L:=by rw [<-h]
def rG (b:Nat):List (Nat × a8)->List (Nat × a8)
 | []=>[]
 | (c,y) :: l=>bif Nat.beq c b then rG b l else(c,y) :: rG b l
theorem aik (b:Nat):∀ (l:List (Nat × a8)) (c:Nat),hp (rG b l) c=if c=b then none else hp l c
 | [],c=>by simp [rG,hp]
 | (d,y) :: l,c=>by
   simp only [rG]
   by_cases s9:d=b
   ·subst s9
    rw [sC]
    simp only [cond_true,aik d l c,hp]
    by_cases h:c=d
    ·rw [if_pos h,if_pos h]
    ·rw [if_neg h,if_neg h,ob h];rfl
   ·rw [ob s9]
    simp only [cond_false,hp,aik b l c]
    by_cases h:c=d
    ·subst h;rw [sC];simp [s9]
    ·rw [ob h];rfl
theorem bh7 (s:Nat->LV) (l:List (Nat × a8)) (b:Nat):(St.mk s (hp l)).bG b none=St.mk s (hp (rG b l)):=by
 show St.mk s _=_
 congr 1;funext c
 exact(aik b l c).symm
theorem dh1 (b:Nat):rG b []=[]:=rfl
theorem dh2 (b c:Nat) (y:a8) (l:List (Nat × a8)) (h:(c==b)=true):rG b ((c,y) :: l)=rG b l:=by
 have:c=b:=by simpa using h
 subst this;simp only [rG,sC,cond_true]
theorem dh3 (b c:Nat) (y:a8) (l:List (Nat × a8)) (h:(c==b)=false):rG b ((c,y) :: l)=(c,y) :: rG b l:=by
 have:c≠b:=by simpa using h
 simp only [rG,ob this,cond_false]
def av (P:Program) (f:FuncId) (args:List LV) (r:LV):Prop:=nk P f args r []/\∀ g,r.bJ g=r
section
variable {P:Program} {dr:Bool} {ops:Array Oper} {rest:List Oper} {L:St} {K:St->Prop} {dst:Option Tmp} {ty:TypeId} {pos:String} {af:Array Edge} {g:Option (Nat × Bool)}
theorem gL {f:FuncId} {xs:Array Operand} {as:Array TypeId} {args:List LV} {r:LV} (hg:dE ops L ⟨dst,.call ⟨.value (.func f),xs,as⟩,ty,pos,af,g⟩ true)
  (ha:eU L.heap (xs.toList.map L.ev) args) (hk:av P f args r) (k:opsL P dr ops rest (L.put dst r) K) :
  opsL P dr ops (⟨dst,.call ⟨.value (.func f),xs,as⟩,ty,pos,af,g⟩ :: rest) L K:=auj hg ha hk.1 (hk.2 _) k
theorem afv {f:FuncId} {xs:Array Operand} {as:Array TypeId} {args:List LV} {r:LV} (bs:List Nat) (hg:dE ops L ⟨dst,.call ⟨.value (.func f),xs,as⟩,ty,pos,af,g⟩ true) (h0:bs.contains 0=false)
  (ha:eU (L.bR bs).heap (xs.toList.map L.ev) args) (hk:av P f args r) (k:opsL P dr ops rest ((L.bR bs).put dst r) K) :
  opsL P dr ops (⟨dst,.call ⟨.value (.func f),xs,as⟩,ty,pos,af,g⟩ :: rest) L K:=apK bs hg h0 ha hk.1 (hk.2 _) k
theorem atU {f:FuncId} {fn:Func} {c:Code} {args:List LV} {r:LV} (gH:P.follows .mixedOrders=true) (hf:P.funcs[f]?=some fn) (hb:fn.body=some c)
  (hn:(fn.name== "runtime.NumGoroutine")=false) (hd:jF fn.ntmps c=true) (hlen:args.length<=fn.ntmps) (ht:∀ g,r.bJ g=r)
  (h:cx P c (fun e L=>match e with | .exit _=>False | _=>nt P fn.results.toList L r []) (St.mk (fun t=>args.getD t .any) (hp []))):av P f args r:=⟨aoV gH hf hb hn hd hlen h,ht⟩
end
theorem auO {P:Program} {f:FuncId} {fn:Func} {c:Code} {args:List LV} {r:LV} {bs:List a8} (gH:P.follows .mixedOrders=true) (hf:P.funcs[f]?=some fn) (hb:fn.body=some c)
  (hn:(fn.name== "runtime.NumGoroutine")=false) (hd:jF fn.ntmps c=true) (hlen:args.length<=fn.ntmps)
  (h:cx P c (fun e L=>match e with | .exit _=>False | _=>nt P fn.results.toList L r bs) (St.mk (fun t=>args.getD t .any) (hp []))):nk P f args r bs:=aoV gH hf hb hn hd hlen h
theorem aAo {P:Program} {f:FuncId} {fn:Func} {c:Code} {args:List LV} {r:LV} {blk blk':a8} (gH:P.follows .mixedOrders=true) (hf:P.funcs[f]?=some fn) (hb:fn.body=some c)
  (hn:(fn.name== "runtime.NumGoroutine")=false) (hd:jF fn.ntmps c=true) (hlen:args.length<=fn.ntmps) (eA:blk.mt=true)
  (h:cx P c (fun e L=>match e with | .exit _=>False | _=>u9 P fn.results.toList L r blk') (St.mk (fun t=>args.getD t .any) (hp [(0,blk)]))):lH P f blk args r blk':=by
 refine axs gH hf hb hn hd hlen eA ?_
 have:StM args blk=St.mk (fun t=>args.getD t .any) (hp [(0,blk)]):=by
  simp only [StM,St.mk.injEq,true_and]
  funext c
  simp only [hp]
  by_cases hc:c=0
  ·subst hc;rfl
  ·rw [ob hc,if_neg hc];rfl
 rw [this];exact h
theorem abi {x:LV} (h:x.pure=true):∀ g,x.bJ g=x:=fun g=>LV.cP g x h
theorem jh {x y:LV} (h:x.pure=true) (h':y.pure=true):∀ g,(LV.a7 [x,y]).bJ g=.a7 [x,y]:=fun g=>by
 simp only [LV.bJ,cW,LV.cP g x h,LV.cP g y h']
theorem afL {x y z:LV} (h:x.pure=true) (h':y.pure=true) (h'':z.pure=true):∀ g,(LV.a7 [x,y,z]).bJ g=.a7 [x,y,z]:=fun g=>by
 simp only [LV.bJ,cW,LV.cP g x h,LV.cP g y h',LV.cP g z h'']
theorem xd (l:List Nat):(ee l).pure=true:=eB eZ 1 l
theorem t1 (n:Nat):((n:Nat):Int).toNat=n:=rfl
theorem t2 (k:IntKind) (n:Nat):bh n=.v (.int .u32 (n:Nat)):=rfl
theorem akU {L:St} {α:Type} {e:α->LV} {ag:Bool} {bs:List Nat} {b sz len:Nat} {l:List α} {m:Bool} (he:gE e sz ag) (hb:L.heap b=some ⟨sz,l.map e,m⟩) (px:bs.contains b=true) (hl:len<=l.length) :
  cG (L.bR bs).heap (.ref b sz 0 len) (.list sz ((l.take len).map e)):=by
 have:=acj (L:=L) (bs:=bs) (off:=0) (len:=len) hb px (aW he l) (by simp [hl])
 rwa [List.drop_zero,<-List.map_take] at this
theorem sw {P:Program} {L:St} {t:Nat} {x y:LV} {blk:a8} (h:L.slot t=x) (hi:tQ L.heap 0 x y) (hb:L.heap 0=some blk) (hm:blk.mt=true) (hp:aG blk.vals=true):u9 P [.tmp t] L y blk :=
 ⟨[x],[y],L.heap,.cons h .nil,bK.le_refl _,.cons hi .nil,hb,hm,hp,rfl⟩
theorem as4 {P:Program} {L:St} {blk:a8} (hb:L.heap 0=some blk) (hm:blk.mt=true) (hp:aG blk.vals=true):u9 P [] L (.a7 []) blk :=
 ⟨[],[],L.heap,.nil,bK.le_refl _,.nil,hb,hm,hp,rfl⟩
theorem r1 (f:Nat->Nat) (b sz off len:Nat):(LV.ref b sz off len).bJ f=.ref (f b) sz off len:=rfl
theorem r2 (f:Nat->Nat) (b sz i o:Nat):(LV.aA b sz i o).bJ f=.aA (f b) sz i o:=rfl
theorem r3 (f:Nat->Nat) (x:Value):(LV.v x).bJ f=.v x:=rfl
theorem r4 (d k:Nat):dK d k=1000000+d*16+k:=rfl
section
variable {P:Program} {H:bK} {ρ:Operand->LV} {T E:TypeId} {x z:Operand} {b sz off len h:Nat} {k':IntKind} {ag:Bool}
theorem aB.adV (hx:ρ x=.ref b sz off len) (hT:P.underlying T=some (.slice E)) (hE:bp P E sz ag) (gj:ρ z=.v (.int k' (h:Nat))) (h2:h<=len) (h0:0<len) :
  aB P H ρ (.slice T x none (some z) none) (.ref b sz off h):=by
 have:=aB.th (P:=P) (H:=H) (ρ:=ρ) (la:=none) (ha:=some z) (a:=0) (h:=h) hx hT hE (fun w hw=>by cases hw) (fun _=>rfl) (fun w hw=>by cases hw;exact⟨_,gj⟩) (fun h=>by cases h) J h2 h0
 simpa using this
end
end Go.Lg
namespace Go.Lg
theorem fc:(default:Nat)=0:=rfl
theorem nB (l:List Nat) (k:Nat):val (l.take (k+1))=val (l.take k)+4294967296 ^ k*l.getD k 0:=by
 by_cases h:k<l.length
 ·exact apY h
 ·have h1:l.take (k+1)=l:=List.take_of_length_le J
  have h2:l.take k=l:=List.take_of_length_le J
  have h3:l.getD k 0=0:=by rw [List.getD_eq_getElem?_getD,List.getElem?_eq_none J];rfl
  rw [h1,h2,h3];simp
theorem abq (l:List Nat) {k:Nat} (h:l.length<=k):val (l.take k)=val l:=by rw [List.take_of_length_le h]
theorem avg (l:List Nat) (k j x:Nat) (h:k<=j):(l.set j x).take k=l.take k:=by rw [List.take_set_of_le h]
theorem xV (l:List Nat) (k x:Nat) (h:k<l.length):val ((l.set k x).take (k+1))=val (l.take k)+4294967296 ^ k*x:=by
 rw [nB,avg _ _ _ _ (Nat.le_refl k),List.getD_eq_getElem?_getD,List.getElem?_set_self h];rfl
theorem kQ {l:List Nat} (h:bM l) (k x:Nat) (hx:x<4294967296):bM (l.set k x):=fun y hy=>by
 rcases List.mem_or_eq_of_mem_set hy with hy | rfl
 ·exact h y hy
 ·exact hx
theorem gZ {l:List Nat} (h:bM l) (k:Nat):l.getD k 0<4294967296:=av0 h k
theorem apC (l:List Nat) (k x:Nat) (h:k<l.length):(l.set k x).getD k 0=x:=by
 rw [List.getD_eq_getElem?_getD,List.getElem?_set_self h];rfl
theorem getD_set_ne (l:List Nat) (k j x:Nat) (h:k≠j):(l.set k x).getD j 0=l.getD j 0:=by
 rw [List.getD_eq_getElem?_getD,List.getD_eq_getElem?_getD,List.getElem?_set_ne h]
theorem re (l:List Nat) (k:Nat) (h:l.length<=k):l.getD k 0=0:=by
 rw [List.getD_eq_getElem?_getD,List.getElem?_eq_none h];rfl
theorem zj (p s:Nat):p*(s % 4294967296)+p*4294967296*(s/4294967296)=p*s:=by
 rw [Nat.mul_assoc,<-Nat.mul_add,Nat.mod_add_div]
theorem gG (n k:Nat):(al n).getD k 0<4294967296:=gZ (cE n) k
theorem mO {m n:Nat} (h:m<=n):(al m).length<=(al n).length:=by
 apply u6
 have:=zQ (cE n);rw [bU] at this;omega
theorem qQ {l:List Nat} (h:bM l) {k:Nat} (hk:l.length<=k):val l<4294967296 ^ k :=
 Nat.lt_of_lt_of_le (zQ h) (Nat.pow_le_pow_right J hk)
theorem aeg:al 1=[1]:=rfl
theorem aaV {n:Nat} (h0:0<n) (h:n<4294967296):al n=[n]:=by
 rw [zb h0,Nat.mod_eq_of_lt h,Nat.div_eq_of_lt h];rfl
theorem rL {n:Nat}:(al n).length<=1↔n<4294967296:=aru
theorem xe {n:Nat}:(al n).length<=2↔n<18446744073709551616:=by
 rw [aru]
theorem val_two (x y:Nat):val [x,y]=x+4294967296*y:=by simp [val]
theorem adn {l:List Nat} (h:Can l) (aQ:0<l.length):l.getD (l.length-1) 0≠0:=by
 have h1:l≠[]:=by rintro rfl;simp at aQ
 have:=h h1
 rw [List.getLast_eq_getElem] at this
 rw [List.getD_eq_getElem?_getD,List.getElem?_eq_getElem J]
 exact this
end Go.Lg
namespace Go.Lg
theorem nr {l:List Nat} {k:Nat} (h:k<l.length):val (l.drop k)=l.getD k 0+4294967296*val (l.drop (k+1)):=by
 rw [List.drop_eq_getElem_cons h,val,List.getD_eq_getElem?_getD,List.getElem?_eq_getElem h];rfl
theorem am9 {l:List Nat} {k x:Nat} (h:k<l.length):val ((l.set k x).drop k)=x+4294967296*val (l.drop (k+1)):=by
 rw [nr lr,apC _ _ _ h,List.drop_set_of_lt J]
theorem amc {l:List Nat} (h:bM l) {k j:Nat} (hk:l.length<=k+j):val (l.drop k)<4294967296 ^ j :=
 qQ (aBE h k) bm
theorem aay {l:List Nat} {k x:Nat} (h:k<l.length):val (l.set k x)+4294967296 ^ k*l.getD k 0=val l+4294967296 ^ k*x:=by
 induction l generalizing k with
 | nil=>simp at h
 | cons a l ih =>
  cases k with
  | zero=>simp [val];omega
  | succ k =>
   have:=ih (k:=k) lr
   simp only [List.set_cons_succ,val,List.getD_cons_succ,Nat.pow_succ]
   have e1:4294967296 ^ k*4294967296*l.getD k 0=4294967296*(4294967296 ^ k*l.getD k 0):=by rw [Nat.mul_comm (4294967296 ^ k),Nat.mul_assoc]
   have e2:4294967296 ^ k*4294967296*x=4294967296*(4294967296 ^ k*x):=by rw [Nat.mul_comm (4294967296 ^ k),Nat.mul_assoc]
   rw [e1,e2];omega
theorem rm (l:List Nat) (k:Nat) (h:k<=l.length):val l=val (l.take k)+4294967296 ^ k*val (l.drop k):=by
 have:=adF (l.take k) (l.drop k)
 rwa [List.take_append_drop,List.length_take,Nat.min_eq_left h] at this
def iT (m n:Nat):Int:=if m<n then -1 else if n<m then 1 else 0
theorem ot {m n:Nat} (h:m<n):iT m n=-1:=by simp [iT,h]
theorem qi {m n:Nat} (h:n<m):iT m n=1:=by simp [iT,h];omega
theorem rq {m n:Nat} (h:m=n):iT m n=0:=by simp [iT,h]
theorem ad4 {m n:Nat} (h:(al m).length<(al n).length):m<n:=by
 have h1:=zQ (cE m);rw [bU] at h1
 apply Classical.byContradiction
 intro h2
 have:=mO (Nat.le_of_not_lt h2)
 omega
theorem af8 {a b:List Nat} (ha:bM a) {k:Nat} (hk:k<a.length) (mK:k<b.length) (hd:a.drop (k+1)=b.drop (k+1)) (h:a.getD k 0<b.getD k 0):val a<val b:=by
 rw [rm a k J,rm b k J,nr hk,nr mK,hd]
 have h1:val (a.take k)<4294967296 ^ k:=qQ (tT ha k) bm
 have h2:4294967296 ^ k*(a.getD k 0+1)<=4294967296 ^ k*b.getD k 0:=Nat.mul_le_mul_left _ h
 rw [Nat.mul_add,Nat.mul_add]
 rw [Nat.mul_add] at h2
 omega
theorem apP {a b:List Nat} {k:Nat} (hk:k<a.length) (mK:k<b.length) (hd:a.drop (k+1)=b.drop (k+1)) (h:a.getD k 0=b.getD k 0):a.drop k=b.drop k:=by
 rw [List.drop_eq_getElem_cons hk,List.drop_eq_getElem_cons mK,hd]
 rw [List.getD_eq_getElem?_getD,List.getElem?_eq_getElem hk,List.getD_eq_getElem?_getD,List.getElem?_eq_getElem mK] at h
 simp only [Option.getD_some] at h
 rw [h]
theorem ax4 {a b:List Nat} {k:Nat} (hk:k<a.length) (mK:k<b.length) (hd:a.take k=b.take k) (h:a.getD k 0=b.getD k 0):a.take (k+1)=b.take (k+1):=by
 rw [List.take_succ_eq_append_getElem hk,List.take_succ_eq_append_getElem mK,hd]
 rw [List.getD_eq_getElem?_getD,List.getElem?_eq_getElem hk,List.getD_eq_getElem?_getD,List.getElem?_eq_getElem mK] at h
 simp only [Option.getD_some] at h
 rw [h]
theorem al4 {k c:Nat} {a b o:List Nat} (cN:k<o.length) (hv:val (o.take k)+4294967296 ^ k*c=val (a.take k)+val (b.take k)) {s:Nat} (hs:s=c+a.getD k 0+b.getD k 0) :
  val ((o.set k (s % 4294967296)).take (k+1))+4294967296 ^ (k+1)*(s/4294967296)=val (a.take (k+1))+val (b.take (k+1)):=by
 rw [xV _ _ _ cN,nB a,nB b,Nat.pow_succ]
 have h1:=zj (4294967296 ^ k) s
 have h2:4294967296 ^ k*s=4294967296 ^ k*c+4294967296 ^ k*a.getD k 0+4294967296 ^ k*b.getD k 0:=by rw [hs,Nat.mul_add,Nat.mul_add]
 omega
theorem atc {c:Nat} {a b o:List Nat} (hba:b.length<=a.length) (cN:o.length=a.length+1) (bX:bM o) (hc:c<4294967296) (hv:val (o.take a.length)+4294967296 ^ a.length*c=val (a.take a.length)+val (b.take a.length)) :
  vr (o.set a.length c)=al (val a+val b):=by
 rw [sZ (kQ bX _ _ hc)]
 congr 1
 have h1:=xV o a.length c J
 rw [List.take_of_length_le bm] at h1
 rw [abq a (Nat.le_refl _),abq b hba] at hv
 omega
theorem ako {k br:Nat} {a b o:List Nat} (cN:k<o.length) (hv:val (o.take k)+val (b.take k)=val (a.take k)+4294967296 ^ k*br) {y:Nat} (hy:y=br+b.getD k 0) (h:y<=a.getD k 0) :
  val ((o.set k (a.getD k 0-y)).take (k+1))+val (b.take (k+1))=val (a.take (k+1))+4294967296 ^ (k+1)*0:=by
 rw [xV _ _ _ cN,nB a,nB b]
 have h2:4294967296 ^ k*a.getD k 0=4294967296 ^ k*(a.getD k 0-y)+4294967296 ^ k*br+4294967296 ^ k*b.getD k 0:=by
  rw [<-Nat.mul_add,<-Nat.mul_add];congr 1;omega
 omega
theorem anm {k br:Nat} {a b o:List Nat} (cN:k<o.length) (hv:val (o.take k)+val (b.take k)=val (a.take k)+4294967296 ^ k*br) {y:Nat} (hy:y=br+b.getD k 0) (h:a.getD k 0<y) (hy2:y<=4294967296) :
  val ((o.set k (4294967296+a.getD k 0-y)).take (k+1))+val (b.take (k+1))=val (a.take (k+1))+4294967296 ^ (k+1)*1:=by
 rw [xV _ _ _ cN,nB a,nB b,Nat.pow_succ]
 have h2:4294967296 ^ k*4294967296+4294967296 ^ k*a.getD k 0=4294967296 ^ k*(4294967296+a.getD k 0-y)+4294967296 ^ k*br+4294967296 ^ k*b.getD k 0:=by
  rw [<-Nat.mul_add,<-Nat.mul_add,<-Nat.mul_add];congr 1;omega
 omega
theorem aoO {br:Nat} {a b o:List Nat} (fb:bM a) (bX:bM o) (cN:o.length=a.length) (pU:b.length<=a.length) (hle:val b<=val a)
  (hv:val (o.take a.length)+val (b.take a.length)=val (a.take a.length)+4294967296 ^ a.length*br):vr o=al (val a-val b):=by
 rw [sZ bX]
 congr 1
 rw [abq a (Nat.le_refl _),abq b pU,abq o J] at hv
 have h1:=zQ bX
 rw [cN] at h1
 cases br with
 | zero=>omega
 | succ n =>
  rw [Nat.mul_succ] at hv
  omega
theorem apo {i j c x:Nat} {b o:List Nat} {v0:Nat} (cN:i+j<o.length) (hv:val o+4294967296 ^ (i+j)*c=v0+4294967296 ^ i*(x*val (b.take j))) {s:Nat}
  (hs:s=c+(x*b.getD j 0+o.getD (i+j) 0)) :
  val (o.set (i+j) (s % 4294967296))+4294967296 ^ (i+(j+1))*(s/4294967296)=v0+4294967296 ^ i*(x*val (b.take (j+1))):=by
 have h1:=aay (x:=s % 4294967296) cN
 have h2:=zj (4294967296 ^ (i+j)) s
 have h3:4294967296 ^ i*(x*val (b.take (j+1)))=4294967296 ^ i*(x*val (b.take j))+4294967296 ^ (i+j)*(x*b.getD j 0):=by
  rw [nB,Nat.mul_add,Nat.mul_add,Nat.pow_add]
  congr 1
  rw [Nat.mul_left_comm x,Nat.mul_assoc]
 have h4:4294967296 ^ (i+j)*s=4294967296 ^ (i+j)*c+4294967296 ^ (i+j)*(x*b.getD j 0)+4294967296 ^ (i+j)*o.getD (i+j) 0:=by
  rw [hs,Nat.mul_add,Nat.mul_add];omega
 have h5:4294967296 ^ (i+(j+1))=4294967296 ^ (i+j)*4294967296:=by rw [<-Nat.add_assoc,Nat.pow_succ]
 rw [h3,h5]
 omega
theorem ak1 {i c x:Nat} {a b o:List Nat} {v0:Nat} (_hi:i<a.length) (cN:i+b.length<o.length) (h0:o.getD (i+b.length) 0=0) (hx:x=a.getD i 0) (hv0:v0=val (a.take i)*val b)
  (hv:val o+4294967296 ^ (i+b.length)*c=v0+4294967296 ^ i*(x*val (b.take b.length))) :
  val (o.set (i+b.length) c)=val (a.take (i+1))*val b:=by
 have h1:=aay (x:=c) cN
 rw [List.take_length] at hv
 have h2:val (a.take (i+1))*val b=v0+4294967296 ^ i*(x*val b):=by
  rw [nB,Nat.add_mul,hv0,hx,Nat.mul_assoc]
 rw [h2]
 rw [h0] at h1
 omega
theorem ars {k d r:Nat} {a q:List Nat} (hk:k<a.length) (hq:q.length=a.length) (hv:val (q.drop (k+1))*d+r=val (a.drop (k+1))) {s:Nat} (hs:s=r*4294967296+a.getD k 0) :
  val ((q.set k (s/d)).drop k)*d+s % d=val (a.drop k):=by
 rw [am9 J,nr hk,<-hv,Nat.add_mul]
 have:=Nat.div_add_mod s d
 rw [Nat.mul_comm (s/d)]
 rw [Nat.mul_add,hs] at *
 have e:4294967296*val (q.drop (k+1))*d=4294967296*(val (q.drop (k+1))*d):=by rw [Nat.mul_assoc]
 rw [e]
 omega
theorem akY {d r x:Nat} (hr:r<d) (hx:x<4294967296):(r*4294967296+x)/d<4294967296:=by
 rw [Nat.div_lt_iff_lt_mul J]
 have:(r+1)*4294967296<=d*4294967296:=Nat.mul_le_mul_right _ hr
 rw [Nat.mul_comm 4294967296];omega
theorem aoF {d r:Nat} {a q:List Nat} (hd:0<d) (hr:r<d) (hq:bM q) (hv:val (q.drop 0)*d+r=val (a.drop 0)):vr q=al (val a/d)/\r=val a % d:=by
 rw [List.drop_zero,List.drop_zero] at hv
 rw [sZ hq,<-hv]
 refine⟨?_,?_⟩
 ·congr 1
  rw [Nat.mul_comm,Nat.mul_add_div hd,Nat.div_eq_of_lt hr];rfl
 ·rw [Nat.mul_comm,Nat.mul_add_mod,Nat.mod_eq_of_lt hr]
theorem ax9 {k c p:Nat} {a o:List Nat} (cN:k<o.length) (hv:val (o.take k)+4294967296 ^ k*c=val (a.take k)*p) {s:Nat} (hs:s=a.getD k 0*p+c) :
  val ((o.set k (s % 4294967296)).take (k+1))+4294967296 ^ (k+1)*(s/4294967296)=val (a.take (k+1))*p:=by
 rw [xV _ _ _ cN,nB a,Nat.pow_succ,Nat.add_mul]
 have h1:=zj (4294967296 ^ k) s
 have h2:4294967296 ^ k*s=4294967296 ^ k*(a.getD k 0*p)+4294967296 ^ k*c:=by rw [hs,Nat.mul_add]
 have h3:4294967296 ^ k*a.getD k 0*p=4294967296 ^ k*(a.getD k 0*p):=by rw [Nat.mul_assoc]
 omega
theorem aA5 {c p:Nat} {a o:List Nat} (cN:o.length=a.length+1) (hv:val (o.take a.length)+4294967296 ^ a.length*c=val (a.take a.length)*p):val (o.set a.length c)=val a*p:=by
 have h1:=xV o a.length c J
 rw [List.take_of_length_le bm] at h1
 rw [abq a (Nat.le_refl _)] at hv
 omega
def di (n:Nat):Nat:=if n=0 then 0 else n.log2+1
theorem tj {n:Nat}:di n=0↔n=0:=by unfold di;split<;>simp_all
theorem sO {n k:Nat}:di n<=k↔n<2 ^ k:=by
 unfold di
 split
 ·rename_i h;subst h;simp [Nat.pow_pos]
 ·rename_i h
  rw [Nat.succ_le_iff,Nat.log2_lt h]
theorem agB {n k:Nat}:k<di n↔2 ^ k<=n:=by
 rw [<-Nat.not_le,sO,Nat.not_lt]
theorem axd {n:Nat}:di n=1↔n=1:=by
 have h1:=sO (n:=n) (k:=1)
 have h0:=tj (n:=n)
 simp only [Nat.pow_one] at h1
 omega
theorem auM {n k:Nat} (h1:2 ^ k<=n) (h2:n<2 ^ (k+1)):di n=k+1:=by
 have a:=agB.2 h1
 have b:=sO.2 h2
 omega
theorem afk {n k:Nat} (h:2 ^ k<=n):di n=k+di (n/2 ^ k):=by
 have hp:0<2 ^ k:=Nat.pow_pos J
 have h0:n/2 ^ k≠0:=by
  intro e
  rw [Nat.div_eq_zero_iff] at e
  omega
 have h1:0<di (n/2 ^ k):=by
  rcases Nat.eq_zero_or_pos (di (n/2 ^ k)) with e | e
  ·exact absurd (tj.1 e) h0
  ·exact e
 obtain⟨j,hj⟩:∃ j,di (n/2 ^ k)=j+1:=⟨_,(Nat.sub_add_cancel h1).symm⟩
 have h2:2 ^ j<=n/2 ^ k:=agB.1 J
 have h3:n/2 ^ k<2 ^ (j+1):=sO.1 J
 rw [Nat.le_div_iff_mul_le hp,<-Nat.pow_add] at h2
 rw [Nat.div_lt_iff_lt_mul hp,<-Nat.pow_add] at h3
 rw [hj]
 have:=auM (n:=n) (k:=k+j) (by rwa [Nat.add_comm k]) (by rwa [Nat.add_comm k,Nat.add_right_comm])
 omega
theorem aCb {l:List Nat} (hL:bM l) (h:Can l) (hl:0<l.length):di (val l)=32*(l.length-1)+di (l.getD (l.length-1) 0):=by
 have aQ:=adn h hl
 have hp:0<4294967296 ^ (l.length-1):=Nat.pow_pos J
 have hd:val (l.drop (l.length-1))=l.getD (l.length-1) 0:=by
  rw [nr J,show l.length-1+1=l.length by omega,List.drop_length];simp [val]
 have hs:=rm l (l.length-1) J
 have ht:val (l.take (l.length-1))<4294967296 ^ (l.length-1):=qQ (tT hL _) aO
 rw [hd] at hs
 have anp:(2:Nat) ^ (32*(l.length-1))=4294967296 ^ (l.length-1):=by rw [Nat.pow_mul]
 have jd:4294967296 ^ (l.length-1)*1<=4294967296 ^ (l.length-1)*l.getD (l.length-1) 0:=Nat.mul_le_mul_left _ J
 rw [afk (k:=32*(l.length-1)) (by rw [anp];omega),anp]
 congr 2
 rw [hs,Nat.add_comm,Nat.mul_add_div hp,Nat.div_eq_of_lt ht];rfl
end Go.Lg
namespace Go.Lg
section
variable {a b s x c:Nat}
theorem amp (hs:s<64) (h:a*2 ^ s<18446744073709551616):nD .shl .u64 (a:Nat) (s:Nat)=some (.int .u64 ((a*2 ^ s:Nat):Int)):=by
 have e:min ((s:Int)).toNat IntKind.u64.bits=s:=by show min s 64=s;omega
 have e2:(a:Int)*2 ^ s=((a*2 ^ s:Nat):Int):=by simp
 simp only [nD]
 rw [if_neg J,e,e2,IntWalk.u64_in _ J]
theorem ade {k:IntKind} {m:Nat} (hm:m<=k.bits):nD .shr k (a:Nat) (m:Nat)=some (.int k ((a/2 ^ m:Nat):Int)):=by
 have e:min ((m:Int)).toNat k.bits=m:=by show min m k.bits=m;omega
 simp only [nD]
 rw [if_neg J,e,Int.fdiv_eq_ediv_of_nonneg _ (Int.pow_nonneg J)]
 congr 2
theorem orV (hc:c<2 ^ s) (h:x*2 ^ s+c<18446744073709551616):dk .or .u64 (c:Nat) ((x*2 ^ s:Nat):Int)=some (.int .u64 ((x*2 ^ s+c:Nat):Int)):=by
 have e:(BitVec.ofInt IntKind.u64.bits (c:Int) ||| BitVec.ofInt IntKind.u64.bits ((x*2 ^ s:Nat):Int)).toNat=x*2 ^ s+c:=by
  rw [yB,yB,BitVec.toNat_or,BitVec.toNat_ofNat,BitVec.toNat_ofNat]
  have e1:x*2 ^ s % 2 ^ IntKind.u64.bits=x*2 ^ s:=Nat.mod_eq_of_lt (by show _<18446744073709551616;omega)
  have e2:c % 2 ^ IntKind.u64.bits=c:=Nat.mod_eq_of_lt (by show _<18446744073709551616;omega)
  rw [e1,e2,Nat.or_comm]
  have:=Nat.shiftLeft_add_eq_or_of_lt (i:=s) (b:=c) hc x
  rw [Nat.shiftLeft_eq] at this
  exact this.symm
 simp only [dk,e]
 rw [IntWalk.u64_in _ J]
theorem tbl {s:ByteArray} (h:(List.range 256).all (fun n=>s[n]?==some (UInt8.ofNat (di n)))=true) {n:Nat} (hn:n<256):s[n]?=some (UInt8.ofNat (di n)):=by
 rw [List.all_eq_true] at h
 simpa using h n (by simpa using hn)
end
def gM:Nat->Nat->List Nat
 | 0,_=>[]
 | k+1,m=>m % 4294967296 :: gM k (m/4294967296)
theorem abn:∀ k m,(gM k m).length=k
 | 0,_=>rfl
 | k+1,m=>by simp [gM,abn k]
theorem aif:∀ k m,bM (gM k m)
 | 0,_=>fun x h=>by simp [gM] at h
 | k+1,m=>fun x h=>by
   simp only [gM,List.mem_cons] at h
   rcases h with rfl | h
   ·omega
   ·exact aif k _ x h
theorem aeK:∀ {o:List Nat} {k:Nat},bM o->o.length=k->o=gM k (val o)
 | [],k,_,h=>by subst h;rfl
 | x :: xs,k,hl,h=>by
   subst h
   have hx:=hl x aO
   have ih:=aeK (o:=xs) (k:=xs.length) (fun y hy=>hl y (by simp [hy])) rfl
   simp only [List.length_cons,gM,val]
   have e1:(x+4294967296*val xs) % 4294967296=x:=by omega
   have e2:(x+4294967296*val xs)/4294967296=val xs:=by omega
   rw [e1,e2,<-ih]
theorem agK:∀ {k m:Nat},m<4294967296 ^ k->val (gM k m)=m
 | 0,m,h=>by simp at h;subst h;rfl
 | k+1,m,h=>by
   simp only [gM,val]
   rw [agK (k:=k) (by rw [Nat.div_lt_iff_lt_mul J];rwa [Nat.pow_succ] at h)]
   omega
section
variable {P:Program} {ρ:Operand->LV} {α:Type} {e:α->LV}
theorem c9.aml {T E:TypeId} {x y:Operand} {d sz:Nat} {ag:Bool} {z a b:α} (he:gE e sz ag) (hT:P.underlying T=some (.slice E)) (hz:cU P E (e z)) (hE:bp P E sz ag) (hx:ρ x=e a) (hy:ρ y=e b) (dq:0<sz) (jm:sz<=1000) :
  c9 P ρ d (.buildSlice T 2 #[(0,x),(1,y)]) (.ref d sz 0 2) ⟨sz,[a,b].map e,true⟩:=by
 have:=c9.lit (P:=P) (ρ:=ρ) (d:=d) (T:=T) (n:=2) (ps:=#[(0,x),(1,y)]) hT hz (by rw [he.isAgg];exact hE) (he.au z) J J dq (by
  intro p hp
  simp only [List.mem_cons,List.not_mem_nil,or_false] at hp
  rcases hp with rfl | rfl
  ·refine⟨by simp,?_,by rw [hx];exact LV.eF (he.pure _),by rw [hx];exact LV.dZ (he.pure _)⟩
   simp [lay,hx,he.au,he.isAgg]
  ·refine⟨by simp,?_,by rw [hy];exact LV.eF (he.pure _),by rw [hy];exact LV.dZ (he.pure _)⟩
   simp [lay,hy,he.au,he.isAgg])
 simpa [iD,hx,hy,List.replicate] using this
end
section
variable {P:Program} {n:Nat} {W w:World} {X:XS} {Z0:Nat->Prop} {L:St} {a:Act} {K:St->Prop} {Q:iS->St->Prop}
theorem axZ {s0 d1 d2 sz:Nat} {l:List LV} {T E ty yw U:TypeId} {pos pos':String} {af xU:Array Edge} (h0:L.slot s0=.list sz l) (hT:P.underlying T=some (.slice E))
  (hK:∀ b:Bool,(b=true->l=[])->Q .normal ((L.put (some d1) (.list sz l)).put (some d2) (.v (.bool b)))) :
  ∀ n W X Z0 a w,fa n W X Z0 L a w->jF n (.region 0 [Oper.mk (some d1) (.move (.tmp s0)) ty pos af none,Oper.mk (some d2) (.binOp .eql T (.tmp d1) (.const (.slice none 0 0)) U) yw pos' xU none].toArray false)=true ->
   ∀ id,(Code.region id [Oper.mk (some d1) (.move (.tmp s0)) ty pos af none,Oper.mk (some d2) (.binOp .eql T (.tmp d1) (.const (.slice none 0 0)) U) yw pos' xU none].toArray false).wp P (aav n W X Z0 Q) a w:=by
 intro n W X Z0 a w hs hd id
 simp only [jF,List.all_cons,List.all_nil,Bool.and_true,Bool.and_eq_true,decide_eq_true_eq] at hd
 refine wp_region_list ?_
 have h1:=zO (P:=P) (dr:=false) (ops:=[Oper.mk (some d1) (.move (.tmp s0)) ty pos af none,Oper.mk (some d2) (.binOp .eql T (.tmp d1) (.const (.slice none 0 0)) U) yw pos' xU none].toArray)
  (o:=Oper.mk (some d1) (.move (.tmp s0)) ty pos af none) hs (L':=L.put (some d1) (.list sz l))
  (.val (r:=.list sz l) (fr:=[]) (H1:=L.heap) rfl (bK.le_refl _) (fun _ _ h=>by cases h) (.pure (by have:=aB.move (P:=P) (H:=L.heap) (ρ:=L.ev) (.tmp s0);rwa [show L.ev (.tmp s0)=LV.list sz l from h0] at this)) rfl)
  (fun t ht=>by cases ht;exact hd.1)
  (K:=wpList P [Oper.mk (some d1) (.move (.tmp s0)) ty pos af none,Oper.mk (some d2) (.binOp .eql T (.tmp d1) (.const (.slice none 0 0)) U) yw pos' xU none].toArray (aav n W X Z0 Q)
   [Oper.mk (some d2) (.binOp .eql T (.tmp d1) (.const (.slice none 0 0)) U) yw pos' xU none]) (Q:=aav n W X Z0 Q) (fun a' w' kz=>?_)
 ·unfold wpList
  split
  ·rename_i h;rw [if_pos h] at h1;exact .inl h1
  ·rename_i h;rw [if_neg h] at h1;exact h1
 ·obtain⟨dL,bD,μ,Z,hc,hr⟩:=kz
  have e1:=hr d1
  rw [fQ,if_pos rfl] at e1
  have e2:=e1.2 rfl
  simp only [ay] at e2
  obtain⟨ad,len,cap,q1,q2,q3,q4,q5⟩:=e2
  simp only [List.cons.injEq,and_true] at q1
  have fA:a'.eval (.tmp d1)=.slice ad len cap:=q1
  have hw:Region.wanted (Oper.mk (some d2) (.binOp .eql T (.tmp d1) (.const (.slice none 0 0)) U) yw pos' xU none) (yielded [Oper.mk (some d1) (.move (.tmp s0)) ty pos af none,Oper.mk (some d2) (.binOp .eql T (.tmp d1) (.const (.slice none 0 0)) U) yw pos' xU none].toArray a'.tmps)=true:=rfl
  unfold wpList
  rw [if_pos hw]
  left
  have eu:(execOp a'.eval (Oper.mk (some d2) (.binOp .eql T (.tmp d1) (.const (.slice none 0 0)) U) yw pos' xU none)).run P w'=.ok (.value (.bool ad.isNone)) w':=by
   have hv:a'.eval (.const (.slice none 0 0))=.slice none 0 0:=rfl
   simp only [execOp,fA,hv]
   simp [eqGuard,binOp,run_equal_slice_nil w' T E ad len cap hT]
  unfold Oper.wp
  rw [eu,Oper.upon_value]
  refine⟨_,hK ad.isNone ?_,by rw [put_defers];exact dL,by rw [ox];exact bD,μ,Z,by rw [jU];exact hc,oW (fun t ht=>by cases ht;rw [bD];exact hd.2) hr a9.bool⟩
  intro hb
  rcases q4 with q4 | ⟨blk,off,c,T',fz,part,rest,g1,_⟩
  ·exact q4
  ·rw [g1] at hb;cases hb
end
section
variable {R V p vt v2 vl top u2 rl:Nat}
theorem asO (hV:V=(vt*4294967296+v2)*p+vl) (hR:R=(top*4294967296+u2)*p+rl) (lh:rl<p) (ri:u2<4294967296) (rY:0<vt):R/V<=top/vt:=by
 rw [Nat.le_div_iff_mul_le rY]
 have h1:R/V*V<=R:=Nat.div_mul_le_self R V
 have h2:R/V*(vt*4294967296*p)<=R/V*V:=Nat.mul_le_mul_left _ (by rw [hV,Nat.add_mul];omega)
 have h3:R<(top+1)*4294967296*p:=by
  rw [hR]
  have:(top*4294967296+u2+1)*p<=(top+1)*4294967296*p:=Nat.mul_le_mul_right _ J
  rw [Nat.add_mul _ 1] at this;omega
 have h4:R/V*vt*(4294967296*p)<(top+1)*(4294967296*p):=by
  have e1:R/V*vt*(4294967296*p)=R/V*(vt*4294967296*p):=by simp only [Nat.mul_assoc]
  have e2:(top+1)*(4294967296*p)=(top+1)*4294967296*p:=by simp only [Nat.mul_assoc]
  rw [e1,e2];omega
 exact Nat.le_of_lt_succ (Nat.lt_of_mul_lt_mul_right h4)
theorem aum {x rest:Nat} (hV:V=(vt*4294967296+v2)*p+vl) (hR:R=(top*4294967296+u2)*p+rl) (lh:rl<p) (jG:0<V)
  (hx:x*vt+rest=top) (h:rest*4294967296+u2<x*v2):R/V<x:=by
 rw [Nat.div_lt_iff_lt_mul jG]
 have h1:x*((vt*4294967296+v2)*p)<=x*V:=Nat.mul_le_mul_left _ (by rw [hV];omega)
 have h2:top*4294967296+u2+1<=x*(vt*4294967296+v2):=by
  rw [<-hx,Nat.add_mul,Nat.mul_add,Nat.mul_assoc];omega
 have h3:(top*4294967296+u2+1)*p<=x*(vt*4294967296+v2)*p:=Nat.mul_le_mul_right _ h2
 rw [Nat.add_mul _ 1] at h3
 rw [Nat.mul_assoc] at h3
 omega
theorem aq2 {x rest:Nat} (hV:V=(vt*4294967296+v2)*p+vl) (hR:R=(top*4294967296+u2)*p+rl) (pA:vl<p) (rY:0<vt) (jG:0<V)
  (hx:x*vt+rest=top) (hxB:x<=4294967296) (h:x*v2<=rest*4294967296+u2):x<=R/V+1:=by
 cases x with
 | zero=>exact Nat.zero_le _
 | succ y =>
  have:y<=R/V:=by
   rw [Nat.le_div_iff_mul_le jG]
   have h1:(y+1)*(vt*4294967296+v2)<=top*4294967296+u2:=by
    rw [<-hx,Nat.mul_add,Nat.add_mul _ rest,<-Nat.mul_assoc];omega
   have h2:(y+1)*(vt*4294967296+v2)*p<=(top*4294967296+u2)*p:=Nat.mul_le_mul_right _ h1
   have h3:y*vl<=y*p:=Nat.mul_le_mul_left _ (Nat.le_of_lt pA)
   have h4:y*p<=4294967296*p:=Nat.mul_le_mul_right _ J
   have h5:4294967296*p<=(vt*4294967296+v2)*p:=Nat.mul_le_mul_right _ J
   have h6:y*V=y*(vt*4294967296+v2)*p+y*vl:=by rw [hV,Nat.mul_add,Nat.mul_assoc]
   have h7:(y+1)*(vt*4294967296+v2)*p=y*(vt*4294967296+v2)*p+(vt*4294967296+v2)*p:=by rw [Nat.add_mul,Nat.add_mul,Nat.one_mul]
   omega
  omega
theorem awS {un u1:Nat} (hV:V=(vt*4294967296+v2)*p+vl) (hR:R=((un*4294967296+u1)*4294967296+u2)*p+rl) (pA:vl<p) (hv2:v2<4294967296) (zz:R<V*4294967296):un<=vt:=by
 apply Classical.byContradiction
 intro h
 have h1:(vt+1)*4294967296<=un*4294967296:=by omega
 have h2:(vt*4294967296+v2+1)*4294967296<=(un*4294967296+u1)*4294967296+u2:=by
  have:(vt*4294967296+v2+1)<=un*4294967296+u1:=by omega
  exact Nat.le_trans (Nat.mul_le_mul_right 4294967296 this) (Nat.le_add_right _ _)
 have h3:(vt*4294967296+v2+1)*4294967296*p<=((un*4294967296+u1)*4294967296+u2)*p:=Nat.mul_le_mul_right _ h2
 have h4:V<=(vt*4294967296+v2+1)*p:=by rw [hV,Nat.add_mul _ 1];omega
 have h5:V*4294967296<=(vt*4294967296+v2+1)*p*4294967296:=Nat.mul_le_mul_right _ h4
 have h6:(vt*4294967296+v2+1)*p*4294967296=(vt*4294967296+v2+1)*4294967296*p:=by rw [Nat.mul_right_comm]
 omega
theorem anS {x rest un u1:Nat} (hx:x*vt+rest=un*4294967296+u1) (hun:un<=vt) (vx:u1<4294967296) (hv2:v2<4294967296) (hr:4294967296<=rest):x<4294967296/\x*v2<=rest*4294967296+u2:=by
 have wc:x<4294967296:=by
  apply Classical.byContradiction
  intro h
  have h1:4294967296*vt<=x*vt:=Nat.mul_le_mul_right vt J
  omega
 refine⟨wc,?_⟩
 have h1:x*v2<=4294967296*4294967296:=Nat.mul_le_mul (Nat.le_of_lt wc) (Nat.le_of_lt hv2)
 have h2:4294967296*4294967296<=rest*4294967296:=Nat.mul_le_mul_right _ hr
 omega
end
theorem aA2 {l:List Nat} {k:Nat} (h:val l<4294967296 ^ k):∀ p,k<=p->l.getD p 0=0:=fun p hp=>by
 apply Classical.byContradiction
 intro h0
 have bE:p<l.length:=by
  apply Classical.byContradiction
  intro hh
  exact h0 (re l p J)
 have h1:=rm l p J
 rw [nr bE] at h1
 have h2:4294967296 ^ k<=4294967296 ^ p:=Nat.pow_le_pow_right J hp
 have h3:4294967296 ^ p*1<=4294967296 ^ p*(l.getD p 0+4294967296*val (l.drop (p+1))):=Nat.mul_le_mul_left _ J
 omega
theorem acg:∀ {l:List Nat},(∀ p,l.getD p 0=0)->val l=0
 | [],_=>rfl
 | x :: xs,h=>by
   have h0:x=0:=by simpa using h 0
   have:=acg (l:=xs) (fun p=>by simpa using h (p+1))
   simp [val,h0,this]
theorem acv (l:List Nat) (k p:Nat):(l.drop k).getD p 0=l.getD (k+p) 0:=by
 rw [List.getD_eq_getElem?_getD,List.getD_eq_getElem?_getD,List.getElem?_drop]
theorem aCf {l:List Nat} {k:Nat} (hl:bM l) (h:∀ p,k<=p->l.getD p 0=0):val l<4294967296 ^ k:=by
 by_cases hk:k<=l.length
 ·rw [rm l k hk,acg (l:=l.drop k) (fun p=>by rw [acv];exact h _ J),Nat.mul_zero,Nat.add_zero]
  exact qQ (tT hl k) bm
 ·exact qQ hl J
theorem ayq {l:List Nat} {k:Nat} (hk:k+2<l.length) (hz:∀ p,k+3<=p->l.getD p 0=0) :
  val l=((l.getD (k+2) 0*4294967296+l.getD (k+1) 0)*4294967296+l.getD k 0)*4294967296 ^ k+val (l.take k):=by
 have h3:val (l.drop (k+2+1))=0:=acg (fun p=>by rw [acv];exact hz _ J)
 rw [rm l k J,nr J,nr (k:=k+1) J,nr (k:=k+1+1) J,h3,Nat.mul_comm (4294967296 ^ k),Nat.add_comm,show k+1+1=k+2 from rfl]
 congr 2
 omega
theorem aAc {l:List Nat} {k:Nat} (hk:k+2=l.length):val l=(l.getD (k+1) 0*4294967296+l.getD k 0)*4294967296 ^ k+val (l.take k):=by
 have h3:val (l.drop (k+1+1))=0:=by rw [List.drop_of_length_le J];rfl
 rw [rm l k J,nr J,nr (k:=k+1) J,h3,Nat.mul_comm (4294967296 ^ k),Nat.add_comm]
 congr 2
 omega
theorem aCi {i j c br x:Nat} {v ul:List Nat} {v0:Nat} (kC:i+j<ul.length) (fC:bM ul) (mJ:br<=1)
  (hv:val ul+4294967296 ^ j*(x*val (v.take i))=v0+4294967296 ^ (i+j)*(c+br)) {c1 d:Nat} (tn:c1=c+x*v.getD i 0)
  (hd:d=(18446744073709551616+(18446744073709551616+ul.getD (i+j) 0-c1 % 4294967296) % 18446744073709551616-br) % 18446744073709551616) :
  d/9223372036854775808<=1/\bM (ul.set (i+j) (d % 4294967296)) /\
   val (ul.set (i+j) (d % 4294967296))+4294967296 ^ j*(x*val (v.take (i+1)))=v0+4294967296 ^ (i+1+j)*(c1/4294967296+d/9223372036854775808):=by
 have hu:=gZ fC (i+j)
 refine⟨J,kQ fC _ _ J,?_⟩
 have h1:=aay (x:=d % 4294967296) kC
 have h2:d % 4294967296+c1 % 4294967296+br=ul.getD (i+j) 0+4294967296*(d/9223372036854775808):=by omega
 have h3:4294967296 ^ (i+j)*(d % 4294967296)+4294967296 ^ (i+j)*(c1 % 4294967296)+4294967296 ^ (i+j)*br=4294967296 ^ (i+j)*ul.getD (i+j) 0+4294967296 ^ (i+j)*4294967296*(d/9223372036854775808):=by
  rw [<-Nat.mul_add,<-Nat.mul_add,h2,Nat.mul_add,Nat.mul_assoc]
 have h4:=zj (4294967296 ^ (i+j)) c1
 have h5:4294967296 ^ (i+j)*c1=4294967296 ^ (i+j)*c+4294967296 ^ j*(x*(4294967296 ^ i*v.getD i 0)):=by
  rw [tn,Nat.mul_add,Nat.pow_add]
  congr 1
  simp only [Nat.mul_assoc,Nat.mul_left_comm,Nat.mul_comm]
 have h6:4294967296 ^ (i+1+j)=4294967296 ^ (i+j)*4294967296:=by rw [Nat.add_right_comm,Nat.pow_succ]
 rw [nB,Nat.mul_add x,Nat.mul_add,h6,Nat.mul_add]
 rw [Nat.mul_add] at hv
 omega
theorem alh {j n c br x t:Nat} {ul:List Nat} {V v0:Nat} (kC:n+j<ul.length) (fC:bM ul) (mJ:br<=1) (hc:c<4294967296)
  (hv:val ul+4294967296 ^ j*(x*V)=v0+4294967296 ^ (n+j)*(c+br)) (ht:t=ul.getD (n+j) 0) {d:Nat}
  (hd:d=(18446744073709551616+(18446744073709551616+t-c) % 18446744073709551616-br) % 18446744073709551616) :
  bM (ul.set (n+j) (d % 4294967296))/\d/9223372036854775808<=1 /\
   val (ul.set (n+j) (d % 4294967296))+4294967296 ^ j*(x*V)=v0+4294967296 ^ (n+j+1)*(d/9223372036854775808):=by
 have hu:=gZ fC (n+j)
 refine⟨kQ fC _ _ J,J,?_⟩
 have h1:=aay (x:=d % 4294967296) kC
 have h2:d % 4294967296+c+br=t+4294967296*(d/9223372036854775808):=by omega
 have h3:4294967296 ^ (n+j)*(d % 4294967296)+4294967296 ^ (n+j)*c+4294967296 ^ (n+j)*br=4294967296 ^ (n+j)*t+4294967296 ^ (n+j)*4294967296*(d/9223372036854775808):=by
  rw [<-Nat.mul_add,<-Nat.mul_add,h2,Nat.mul_add,Nat.mul_assoc]
 rw [Nat.pow_succ]
 rw [Nat.mul_add] at hv
 rw [<-ht] at h1
 omega
theorem aw3 {i j c:Nat} {v ul:List Nat} {v0:Nat} (kC:i+j<ul.length) (fC:bM ul) (hv:val ul+4294967296 ^ (i+j)*c=v0+4294967296 ^ j*val (v.take i)) {s:Nat} (hs:s=c+(ul.getD (i+j) 0+v.getD i 0)) :
  bM (ul.set (i+j) (s % 4294967296))/\val (ul.set (i+j) (s % 4294967296))+4294967296 ^ (i+1+j)*(s/4294967296)=v0+4294967296 ^ j*val (v.take (i+1)):=by
 refine⟨kQ fC _ _ J,?_⟩
 have h1:=aay (x:=s % 4294967296) kC
 have h2:=zj (4294967296 ^ (i+j)) s
 have h3:4294967296 ^ (i+j)*s=4294967296 ^ (i+j)*c+4294967296 ^ (i+j)*ul.getD (i+j) 0+4294967296 ^ j*(4294967296 ^ i*v.getD i 0):=by
  rw [hs,Nat.mul_add,Nat.mul_add,Nat.pow_add]
  simp only [Nat.mul_assoc,Nat.mul_left_comm,Nat.mul_comm]
  omega
 have h6:4294967296 ^ (i+1+j)=4294967296 ^ (i+j)*4294967296:=by rw [Nat.add_right_comm,Nat.pow_succ]
 rw [nB,Nat.mul_add,h6]
 omega
end Go.Lg
namespace Go.Lg
theorem rN (k:Nat):0<4294967296 ^ k:=Nat.pow_pos J
theorem afA {ul:List Nat} {V n j:Nat} (hVn:V<4294967296 ^ n) (bE:val ul<V*4294967296 ^ (j+1)):∀ p,n+j+1<=p->ul.getD p 0=0:=by
 apply aA2
 have h1:V*4294967296 ^ (j+1)<=4294967296 ^ n*4294967296 ^ (j+1):=Nat.mul_le_mul_right _ (Nat.le_of_lt hVn)
 rw [<-Nat.pow_add] at h1
 exact Nat.lt_of_lt_of_le bE h1
theorem ajK {ul:List Nat} {V n j:Nat} (hn:(al V).length=n+2) (kC:n+2+j<ul.length) (fC:bM ul) (bE:val ul<V*4294967296 ^ (j+1)) :
  ∃ vl rl,vl<4294967296 ^ n/\rl<4294967296 ^ n/\V=((al V).getD (n+1) 0*4294967296+(al V).getD n 0)*4294967296 ^ n+vl /\
   val ul/4294967296 ^ j=((ul.getD (n+2+j) 0*4294967296+ul.getD (n+1+j) 0)*4294967296+ul.getD (n+j) 0)*4294967296 ^ n+rl /\
   val ul/4294967296 ^ j<V*4294967296:=by
 have hVn:V<4294967296 ^ (n+2):=rj J
 have hz:=afA hVn bE
 have h1:=aAc (l:=al V) (k:=n) J
 have h2:=ayq (l:=ul) (k:=n+j) J (fun p hp=>hz p J)
 rw [bU] at h1
 refine⟨val ((al V).take n),val (ul.take (n+j))/4294967296 ^ j,qQ (tT (cE V) _) bm,?_,h1,?_,?_⟩
 ·rw [Nat.div_lt_iff_lt_mul (rN j),<-Nat.pow_add]
  exact qQ (tT fC _) bm
 ·have e1:n+j+2=n+2+j:=by omega
  have e2:n+j+1=n+1+j:=by omega
  rw [e1,e2] at h2
  rw [h2,Nat.pow_add,<-Nat.mul_assoc,Nat.add_comm,Nat.add_mul_div_right _ _ (rN j),Nat.add_comm]
 ·rw [Nat.div_lt_iff_lt_mul (rN j)]
  rw [Nat.pow_succ] at bE
  have e:V*4294967296*4294967296 ^ j=V*(4294967296 ^ j*4294967296):=by rw [Nat.mul_assoc,Nat.mul_comm 4294967296]
  rw [e];exact bE
section
variable {ul ul0:List Nat} {V n j x:Nat}
theorem aBF (h:val ul+4294967296 ^ j*(x*V)=val ul0) (hV:0<V):x<=val ul0/4294967296 ^ j/V:=by
 rw [Nat.le_div_iff_mul_le hV,Nat.le_div_iff_mul_le (rN j),Nat.mul_comm _ (4294967296 ^ j)]
 omega
theorem asl (h:val ul+4294967296 ^ j*(x*V)=val ul0+4294967296 ^ (n+j+1)) (bE:val ul<4294967296 ^ (n+j+1)) (hV:0<V):val ul0/4294967296 ^ j/V<x:=by
 rw [Nat.div_lt_iff_lt_mul hV,Nat.div_lt_iff_lt_mul (rN j),Nat.mul_comm _ (4294967296 ^ j)]
 omega
theorem awm {ul3:List Nat} {c:Nat} (hx:0<x) (hxV:4294967296 ^ j*((x-1)*V)<=val ul0) (h:val ul+4294967296 ^ j*(x*V)=val ul0+4294967296 ^ (n+j+1)) (kC:n+j<ul3.length) (lf:bM ul3) (hz:∀ p,n+j+1<=p->ul3.getD p 0=0)
  (hc:c<=1) (h3:val ul3+4294967296 ^ (n+j)*c=val ul+4294967296 ^ j*V) {t:Nat} (ht:t=ul3.getD (n+j) 0) :
  bM (ul3.set (n+j) ((t+c) % 4294967296))/\val (ul3.set (n+j) ((t+c) % 4294967296))+4294967296 ^ j*((x-1)*V)=val ul0:=by
 have hs:=rm ul3 (n+j) J
 rw [nr kC,acg (l:=ul3.drop (n+j+1)) (fun p=>by rw [acv];exact hz _ J),Nat.mul_zero,Nat.add_zero,<-ht] at hs
 have yI:val (ul3.take (n+j))<4294967296 ^ (n+j):=qQ (tT lf _) bm
 have yY:=gZ lf (n+j)
 rw [<-ht] at yY
 obtain⟨y,rfl⟩:∃ y,x=y+1:=⟨x-1,J⟩
 rw [Nat.add_sub_cancel] at *
 have e1:4294967296 ^ j*((y+1)*V)=4294967296 ^ j*(y*V)+4294967296 ^ j*V:=by rw [Nat.add_mul,Nat.one_mul,Nat.mul_add]
 rw [e1] at h
 have h4:val (ul3.take (n+j))+4294967296 ^ (n+j)*(t+c)=(val ul0-4294967296 ^ j*(y*V))+4294967296 ^ (n+j)*4294967296:=by
  rw [Nat.mul_add,<-Nat.pow_succ];omega
 have h5:4294967296<=t+c:=by
  apply Classical.byContradiction
  intro hh
  have:4294967296 ^ (n+j)*(t+c+1)<=4294967296 ^ (n+j)*4294967296:=Nat.mul_le_mul_left _ J
  rw [Nat.mul_add _ (t+c)] at this
  omega
 have h6:t+c=4294967296:=by omega
 rw [h6] at h4 ⊢
 refine⟨kQ lf _ _ J,?_⟩
 have h7:=aay (x:=4294967296 % 4294967296) kC
 rw [<-ht,Nat.mod_self,Nat.mul_zero,Nat.add_zero] at h7
 rw [Nat.mod_self]
 omega
theorem am8 {ql:List Nat} {U0:Nat} (hV:0<V) (hx:x=val ul0/4294967296 ^ j/V) (h:val ul+4294967296 ^ j*(x*V)=val ul0) (hj:j<ql.length)
  (hv:val ul0+V*4294967296 ^ (j+1)*val (ql.drop (j+1))=U0) :
  val ul+V*4294967296 ^ j*val ((ql.set j x).drop j)=U0/\val ul<V*4294967296 ^ j:=by
 constructor
 ·rw [am9 hj,<-hv,<-h,Nat.mul_add]
  have e1:V*4294967296 ^ j*x=4294967296 ^ j*(x*V):=by simp only [Nat.mul_assoc,Nat.mul_left_comm,Nat.mul_comm]
  have e2:V*4294967296 ^ j*(4294967296*val (ql.drop (j+1)))=V*4294967296 ^ (j+1)*val (ql.drop (j+1)):=by
   rw [Nat.pow_succ];simp only [Nat.mul_assoc]
  rw [e1,e2];omega
 ·have h1:val ul0/4294967296 ^ j<(x+1)*V:=by
   rw [<-Nat.div_lt_iff_lt_mul hV,hx];omega
  rw [Nat.div_lt_iff_lt_mul (rN j)] at h1
  have e:(x+1)*V*4294967296 ^ j=4294967296 ^ j*(x*V)+V*4294967296 ^ j:=by
   rw [Nat.add_mul,Nat.add_mul,Nat.one_mul,Nat.mul_comm (x*V)]
  rw [e] at h1;omega
end
theorem aBl {s:Nat} (hs:s<32):2 ^ s<=2147483648:=Nat.pow_le_pow_right (n:=2) J (show s<=31 by omega)
theorem ave {top:Nat} (h0:0<top) (h:top<4294967296):2147483648<=top*2 ^ (32-di top)/\top*2 ^ (32-di top)<4294967296:=by
 have h1:di top<=32:=sO.2 h
 have h2:1<=di top:=by
  rcases Nat.eq_zero_or_pos (di top) with e | e
  ·exact absurd (tj.1 e) J
  ·exact e
 have h3:2 ^ (di top-1)<=top:=agB.1 J
 have h4:top<2 ^ di top:=sO.1 (Nat.le_refl _)
 constructor
 ·have:=Nat.mul_le_mul_right (2 ^ (32-di top)) h3
  rw [<-Nat.pow_add,show di top-1+(32-di top)=31 by omega] at this
  exact this
 ·have:=Nat.mul_lt_mul_of_pos_right h4 (Nat.pow_pos (n:=32-di top) (show 0<2 by omega))
  rw [<-Nat.pow_add,show di top+(32-di top)=32 by omega] at this
  exact this
theorem apn {Bv n s:Nat} (hn:(al Bv).length=n+1) (hs:s=32-di ((al Bv).getD n 0)):s<32/\(al (Bv*2 ^ s)).length=n+1/\2147483648*4294967296 ^ n<=Bv*2 ^ s/\Bv*2 ^ s<4294967296 ^ (n+1):=by
 have aQ:=adn (ac4 Bv) (by omega:0<(al Bv).length)
 rw [hn,Nat.add_sub_cancel] at aQ
 have zu:=gG Bv n
 obtain⟨h1,h2⟩:=ave (Nat.pos_of_ne_zero aQ) zu
 rw [<-hs] at h1 h2
 have hv:Bv=4294967296 ^ n*(al Bv).getD n 0+val ((al Bv).take n):=by
  have:=rm (al Bv) n J
  rw [nr J,show (al Bv).drop (n+1)=[] from List.drop_of_length_le J,bU] at this
  simp only [val,Nat.mul_zero,Nat.add_zero] at this
  omega
 have yI:val ((al Bv).take n)<4294967296 ^ n:=qQ (tT (cE Bv) _) bm
 have jd:2147483648*4294967296 ^ n<=Bv*2 ^ s:=by
  have:=Nat.mul_le_mul_left (4294967296 ^ n) h1
  have e:4294967296 ^ n*((al Bv).getD n 0*2 ^ s)<=Bv*2 ^ s:=by
   rw [<-Nat.mul_assoc];exact Nat.mul_le_mul_right _ J
  rw [Nat.mul_comm] at this;omega
 have bE:Bv*2 ^ s<4294967296 ^ (n+1):=by
  have hp:0<2 ^ s:=Nat.pow_pos J
  have e1:Bv<4294967296 ^ n*((al Bv).getD n 0+1):=by rw [Nat.mul_add];omega
  have e2:=Nat.mul_lt_mul_of_pos_right e1 hp
  have e3:(al Bv).getD n 0*2 ^ s+2 ^ s<=4294967296:=by
   have qB:s<=32:=by omega
   have hd:4294967296=2 ^ (32-s)*2 ^ s:=by rw [<-Nat.pow_add,show 32-s+s=32 by omega]
   rw [hd] at h2 ⊢
   have:=Nat.lt_of_mul_lt_mul_right h2
   have:=Nat.mul_le_mul_right (2 ^ s) this
   rw [Nat.succ_mul] at this
   exact this
  rw [Nat.mul_assoc,Nat.add_mul,Nat.one_mul] at e2
  have e4:=Nat.mul_le_mul_left (4294967296 ^ n) e3
  rw [Nat.pow_succ];omega
 refine⟨?_,?_,jd,bE⟩
 ·rcases Nat.eq_zero_or_pos (di ((al Bv).getD n 0)) with e | e
  ·exact absurd (tj.1 e) aQ
  ·omega
 ·have h3:=u6 bE
  have h4:n<(al (Bv*2 ^ s)).length:=by
   apply Classical.byContradiction
   intro hh
   have:=rj (n:=Bv*2 ^ s) (k:=n) J
   have:=Nat.mul_le_mul_right (4294967296 ^ n) (show 1<=2147483648 by omega)
   omega
  omega
theorem apb {V n:Nat} (hn:(al V).length=n+1) (jd:2147483648*4294967296 ^ n<=V):2147483648<=(al V).getD n 0:=by
 have hv:=rm (al V) n J
 rw [nr J,show (al V).drop (n+1)=[] from List.drop_of_length_le J,bU] at hv
 simp only [val,Nat.mul_zero,Nat.add_zero] at hv
 have yI:val ((al V).take n)<4294967296 ^ n:=qQ (tT (cE V) _) bm
 apply Classical.byContradiction
 intro hh
 have:=Nat.mul_le_mul_left (4294967296 ^ n) (show (al V).getD n 0+1<=2147483648 by omega)
 rw [Nat.mul_add,Nat.mul_comm _ 2147483648] at this
 omega
theorem ay5 {A Bv s n m:Nat} (hs:s<32) (hm:(al A).length=m) (je:n+1<=m) (jd:2147483648*4294967296 ^ n<=Bv*2 ^ s):A*2 ^ s<Bv*2 ^ s*4294967296 ^ (m+1-(n+1))/\A*2 ^ s<4294967296 ^ (m+1):=by
 have hA:A<4294967296 ^ m:=rj J
 have hp:=aBl hs
 have h1:A*2 ^ s<4294967296 ^ m*2147483648:=Nat.lt_of_lt_of_le (Nat.mul_lt_mul_of_pos_right hA (Nat.pow_pos J)) (Nat.mul_le_mul_left _ hp)
 constructor
 ·have h2:=Nat.mul_le_mul_right (4294967296 ^ (m+1-(n+1))) jd
  rw [Nat.mul_assoc,<-Nat.pow_add,show n+(m+1-(n+1))=m by omega] at h2
  omega
 ·rw [Nat.pow_succ];exact Nat.lt_trans h1 (Nat.mul_lt_mul_of_pos_left J (rN m))
theorem aoI {A Bv s:Nat} {ul ql:List Nat} (hB:0<Bv) (h:val ul+Bv*2 ^ s*val ql=A*2 ^ s) (bE:val ul<Bv*2 ^ s):val ql=A/Bv/\val ul=A % Bv*2 ^ s:=by
 have hp:0<2 ^ s:=Nat.pow_pos J
 have h1:val ul=A*2 ^ s % (Bv*2 ^ s):=by
  rw [<-h,Nat.add_mul_mod_self_left,Nat.mod_eq_of_lt bE]
 have h2:val ql=A*2 ^ s/(Bv*2 ^ s):=by
  rw [<-h,Nat.add_mul_div_left _ _ (by exact Nat.mul_pos hB hp),Nat.div_eq_of_lt bE,Nat.zero_add]
 rw [Nat.mul_mod_mul_right] at h1
 rw [Nat.mul_div_mul_right _ _ hp] at h2
 exact⟨h2,h1⟩
theorem aju {i s:Nat} {w o:List Nat} (hi:i<w.length) (hs:s<32) (hd:w.getD i 0=o.getD i 0) (hv:2 ^ s*val (w.take i)=val (o.take i)+4294967296 ^ i*(o.getD i 0 % 2 ^ s)) {y:Nat} (hy:y=o.getD i 0/2 ^ s+o.getD (i+1) 0 % 2 ^ s*2 ^ (32-s)) :
  2 ^ s*val ((w.set i y).take (i+1))=val (o.take (i+1))+4294967296 ^ (i+1)*(o.getD (i+1) 0 % 2 ^ s):=by
 rw [xV _ _ _ hi,nB o,Nat.mul_add,hv,Nat.pow_succ]
 have h1:=Nat.div_add_mod (o.getD i 0) (2 ^ s)
 have h2:2 ^ s*(o.getD (i+1) 0 % 2 ^ s*2 ^ (32-s))=4294967296*(o.getD (i+1) 0 % 2 ^ s):=by
  rw [Nat.mul_left_comm,<-Nat.pow_add,show s+(32-s)=32 by omega,Nat.mul_comm]
 have h3:2 ^ s*(4294967296 ^ i*y)=4294967296 ^ i*(2 ^ s*(o.getD i 0/2 ^ s))+4294967296 ^ i*4294967296*(o.getD (i+1) 0 % 2 ^ s):=by
  rw [Nat.mul_left_comm,hy,Nat.mul_add,h2,Nat.mul_add,Nat.mul_assoc]
 have h4:4294967296 ^ i*o.getD i 0=4294967296 ^ i*(2 ^ s*(o.getD i 0/2 ^ s))+4294967296 ^ i*(o.getD i 0 % 2 ^ s):=by rw [<-Nat.mul_add,h1]
 omega
section
variable {a b s x c:Nat}
theorem auG:dk .and .u64 (a:Nat) 4294967295=some (.int .u64 ((a % 4294967296:Nat):Int)):=by
 have e:(BitVec.ofInt IntKind.u64.bits (a:Int) &&& BitVec.ofInt IntKind.u64.bits (4294967295:Int)).toNat=a % 4294967296:=by
  have h1:(4294967295:Int)=((4294967295:Nat):Int):=rfl
  rw [h1,yB,yB,BitVec.toNat_and,BitVec.toNat_ofNat,BitVec.toNat_ofNat]
  have h2:4294967295 % 2 ^ IntKind.u64.bits=2 ^ 32-1:=rfl
  rw [h2,Nat.and_two_pow_sub_one_eq_mod]
  show a % 18446744073709551616 % 4294967296=a % 4294967296
  omega
 simp only [dk,e]
 rw [IntWalk.u64_in _ J]
theorem awX:dk .add .u32 (a:Nat) (b:Nat)=some (.int .u32 (((a+b) % 4294967296:Nat):Int)):=by
 simp only [dk];rw [IntKind.wrap_u32];congr 2
theorem aAk (hs:s<=32):nD .shl .u32 (a:Nat) ((s:Nat):Int)=some (.int .u32 ((a % 2 ^ (32-s)*2 ^ s:Nat):Int)):=by
 have e:min ((s:Int)).toNat IntKind.u32.bits=s:=by show min s 32=s;omega
 have e2:(a:Int)*2 ^ s=((a*2 ^ s:Nat):Int):=by simp
 simp only [nD]
 rw [if_neg J,e,e2,wrap32]
 congr 3
 have:4294967296=2 ^ (32-s)*2 ^ s:=by rw [<-Nat.pow_add,show 32-s+s=32 by omega]
 rw [this,Nat.mul_mod_mul_right]
theorem aCF (hc:c<2 ^ s) (h:x*2 ^ s+c<4294967296):dk .or .u32 (c:Nat) ((x*2 ^ s:Nat):Int)=some (.int .u32 ((x*2 ^ s+c:Nat):Int)):=by
 have e:(BitVec.ofInt IntKind.u32.bits (c:Int) ||| BitVec.ofInt IntKind.u32.bits ((x*2 ^ s:Nat):Int)).toNat=x*2 ^ s+c:=by
  rw [yB,yB,BitVec.toNat_or,BitVec.toNat_ofNat,BitVec.toNat_ofNat]
  have e1:x*2 ^ s % 2 ^ IntKind.u32.bits=x*2 ^ s:=Nat.mod_eq_of_lt (by show _<4294967296;omega)
  have e2:c % 2 ^ IntKind.u32.bits=c:=Nat.mod_eq_of_lt (by show _<4294967296;omega)
  rw [e1,e2,Nat.or_comm]
  have:=Nat.shiftLeft_add_eq_or_of_lt (i:=s) (b:=c) hc x
  rw [Nat.shiftLeft_eq] at this
  exact this.symm
 simp only [dk,e]
 rw [IntWalk.u32_in _ J]
theorem agD {s y z:Nat} (hs:s<=32) (hy:y<4294967296):y/2 ^ s<2 ^ (32-s)/\z % 2 ^ s*2 ^ (32-s)+y/2 ^ s<4294967296:=by
 have hd:4294967296=2 ^ (32-s)*2 ^ s:=by rw [<-Nat.pow_add,show 32-s+s=32 by omega]
 have hp:0<2 ^ s:=Nat.pow_pos J
 have h1:y/2 ^ s<2 ^ (32-s):=by rw [Nat.div_lt_iff_lt_mul hp];omega
 refine⟨h1,?_⟩
 have h2:=Nat.mod_lt z hp
 have h3:(z % 2 ^ s+1)*2 ^ (32-s)<=2 ^ s*2 ^ (32-s):=Nat.mul_le_mul_right _ h2
 rw [Nat.add_mul,Nat.one_mul,Nat.mul_comm (2 ^ s)] at h3
 omega
end
theorem arT:∀ {l:List Nat},val l=0->∀ p,l.getD p 0=0
 | [],_,p=>by simp
 | x :: xs,h,p=>by
   simp only [val] at h
   have h1:x=0:=by omega
   have h2:val xs=0:=by omega
   cases p with
   | zero=>simpa using h1
   | succ p=>simpa using arT h2 p
theorem asA {l:List Nat} {n:Nat} (hn:n=l.length):∀ p,ig n l<=p->l.getD p 0=0:=fun p hp=>by
 subst hn
 have h1:=(aej l.length l (Nat.le_refl _)).2
 rw [List.take_length] at h1
 have h2:=rm l (ig l.length l) (aiy _ _)
 rw [h1] at h2
 have h3:val (l.drop (ig l.length l))=0:=by
  rcases Nat.eq_zero_or_pos (val (l.drop (ig l.length l))) with e | e
  ·exact e
  ·have:=Nat.mul_pos (rN (ig l.length l)) e;omega
 have h4:=arT h3 (p-ig l.length l)
 rwa [acv,show ig l.length l+(p-ig l.length l)=p by omega] at h4
theorem amd {l:List Nat} {r s:Nat} (hs:s<=32) (h:val l=r*2 ^ s):l.getD 0 0 % 2 ^ s=0:=by
 cases l with
 | nil=>simp
 | cons x xs =>
  simp only [val] at h
  have hd:4294967296=2 ^ (32-s)*2 ^ s:=by rw [<-Nat.pow_add,show 32-s+s=32 by omega]
  have h1:(x+4294967296*val xs) % 2 ^ s=0:=by rw [h,Nat.mul_mod_left]
  rw [hd,Nat.mul_right_comm,Nat.add_mul_mod_self_right] at h1
  simpa using h1
theorem t0:(0:Int).toNat=0:=rfl
theorem aB9 {x:Nat} (h:x<4294967296):bM [x]:=fun y hy=>by simp at hy;omega
def zE:List Nat->Code->Option Code
 | [],c=>some c
 | i :: p,.seq x y=>if i=0 then zE p x else zE p y
 | i :: p,.cond _ x y=>if i=0 then zE p x else zE p y
 | _ :: p,.block _ c=>zE p c
 | _ :: p,.loop c=>zE p c
 | _,_=>none
def zL (fn:Func) (p:List Nat):Option Code:=fn.body.bind (zE p)
section
variable {P:Program} {Q:iS->St->Prop} {L L':St}
theorem acS {fn:Func} {p:List Nat} {c:Code} (h:zL fn p=some c) (k:cx P c Q L):cx P ((zL fn p).getD .skip) Q L:=by rw [h];exact k
end
theorem acQ {P:Program} {Q:iS->St->Prop} {L:St} {c:Code} {S:St->St} (h:S L=L) (k:cx P c Q (S L)):cx P c Q L:=by rw [<-h];exact k
theorem aaw {Q:iS->St->Prop} {S L:St} (k:Q .normal S) (h:S=L):Q .normal L:=h ▸ k
end Go.Lg
namespace Go.Lg
theorem hce:(∀ (p:Prop) [Decidable p],(decide p=true)=p)/\(∀ (p:Prop) [Decidable p],(decide p=false)=¬ p)/\(∀ {α:Type} [BEq α] [LawfulBEq α] {a b:α},((a==b)=true)=(a=b))
  /\ (∀ {α:Type} [BEq α] [LawfulBEq α] {a b:α},((a==b)=false)=¬ (a=b))/\(∀ {α:Type} [BEq α] [LawfulBEq α] {a b:α},((a != b)=true)=¬ (a=b))/\(∀ {α:Type} [BEq α] [LawfulBEq α] {a b:α},((a != b)=false)=(a=b))
  /\ (∀ (b:Bool),(¬ (b=true))=(b=false))/\(∀ (b:Bool),((!b)=true)=(b=false))/\(∀ (b:Bool),((!b)=false)=(b=true))/\(∀ (a b:Bool),(a=!b)=¬ (a=b))/\(!true)=false/\(!false)=true :=
 ⟨fun _=>by simp,fun _=>by simp,by intros;simp,by intros;simp,by intros;simp,by intros;simp,by simp,by simp,by simp,fun a b=>by cases a<;>cases b<;>simp,rfl,rfl⟩
theorem tm0 {p:Prop} (h:p:=by first | exact abi rfl | exact abi (xd _) | exact abi (iN _) | exact abi (ao.pure _) | exact abi (bS.pure _) | exact abi (eB ao _ _) | exact jh (xd _) rfl | exact jh (iN _) rfl | exact jh (ao.pure _) rfl | exact jh (iN _) (iN _) | exact afL (iN _) (iN _) rfl | exact jh rfl rfl | exact afL rfl rfl rfl | exact jh (eB ao _ _) (eB ao _ _) | exact jh (eB ao _ _) rfl):p:=h
theorem imZ {H:bK}:cG H (.agg [.v (.bool false),.list 1 [],.list 1 []]) (ae 0):=oa ▸ .pure (ao.pure 0)
theorem eJ {p:Prop} (h:p:=by first | exact .pure rfl | exact .pure (eB eZ _ _) | exact .pure (iN _) | exact .pure (ao.pure _) | exact .pure (bS.pure _) | exact imZ | exact .pure (eB ao _ _) | exact .pure (xd _) | exact .nil _ | exact .pure (eB m8 _ _) | exact .pure (eB bS _ _) | exact .pure (bg.pure ⟨_,_,_⟩) | exact .pure (bw.pure _) | exact .pure (eB bg _ _) | exact .pure (eB bw _ _) | exact .pure (by assumption) | exact .pure pu):p:=h
theorem im1 {p:Prop} (h:p:=by first | exact .pure rfl | exact .pure (eB eZ _ _) | exact .pure (iN _) | exact .pure (ao.pure _) | exact .pure (bS.pure _) | exact .pure (eB ao _ _) | exact .pure (xd _) | exact .nil _ | exact .pure (eB m8 _ _) | exact .pure (eB bS _ _) | exact .pure (by assumption) | exact eM eZ rfl rfl (by first | rfl | omega | exact(abn _ _).symm | (simp;done) | (simp;omega)) | exact eM ao rfl rfl (by first | rfl | omega | exact(abn _ _).symm | (simp;done) | (simp;omega)) | exact akU eZ rfl rfl (by first | omega | (simp;omega)) | exact akU ao rfl rfl (by first | omega | (simp;omega))):p:=h
theorem nt0 {p:Prop} (h:p:=by first | (simp;done) | exact(fun m h=>LV.noConfusion h) | exact LV.dZ (iN _) | exact LV.dZ (ao.pure _) | exact LV.dZ (bS.pure _) | exact LV.dZ (xd _) | exact LV.dZ (eB ao _ _) | exact LV.dZ (by assumption)):p:=h
theorem kH {p:Prop} (h:p:=by first | exact⟨(fun h=>by cases h),(fun _ h=>by cases h)⟩ | exact⟨LV.eF (ao.pure _),LV.dZ (ao.pure _)⟩ | exact⟨LV.eF (bS.pure _),LV.dZ (bS.pure _)⟩ | exact⟨LV.eF (bg.pure _),LV.dZ (bg.pure _)⟩ | exact⟨LV.eF (bw.pure _),LV.dZ (bw.pure _)⟩ | exact⟨LV.eF (by assumption),LV.dZ (by assumption)⟩):p:=h
theorem azz {a s:Nat} (hs:s<=32):nD .shl .u32 (a:Nat) (32-(s:Int))=some (.int .u32 ((a % 2 ^ s*2 ^ (32-s):Nat):Int)):=by
 have:=aAk (a:=a) (s:=32-s) J
 rw [show 32-(32-s)=s by omega] at this
 rwa [show (32:Int)-(s:Int)=((32-s:Nat):Int) by omega]
end Go.Lg
namespace Go.Lg
def kD (s:Bool) (n:Nat):Int:=bif s then -(n:Int) else n
theorem auq (s:Bool):kD s 0=0:=by cases s<;>rfl
theorem afB (s:Bool) (n:Nat):(kD s n).natAbs=n:=by cases s<;>simp [kD]
theorem alY (q:Rat):kD (decide (q<0)) q.num.natAbs=q.num:=by
 have h:(q<0)↔q.num<0:=by rw [<-Rat.not_le,<-Rat.num_nonneg];omega
 by_cases hq:q<0
 ·have:=h.1 hq;simp only [hq,decide_true,kD,cond_true];omega
 ·have h2:¬ q.num<0:=fun x=>hq (h.2 x)
  simp only [hq,decide_false,kD,cond_false];omega
theorem aff (q:Rat):(q<0)↔q.num<0:=by rw [<-Rat.not_le,<-Rat.num_nonneg];omega
def qv (s:Bool) (n d:Nat):Rat:=mkRat (kD s n) d
theorem aha (s:Bool) {n d:Nat} (hn:0<n) (hd:0<d):(qv s n d).num.natAbs=n/n.gcd d:=by
 rw [qv,Rat.num_mkRat,if_neg J,afB,Nat.gcd_comm]
 have h:((n.gcd d:Nat):Int) ∣ kD s n:=by
  cases s
  ·exact Int.natCast_dvd_natCast.2 (Nat.gcd_dvd_left _ _)
  ·exact(Int.dvd_neg.2 (Int.natCast_dvd_natCast.2 (Nat.gcd_dvd_left _ _)))
 rw [Int.natAbs_ediv_of_dvd h,afB]
 simp
theorem ak3 (s:Bool) (n:Nat) {d:Nat} (hd:0<d):(qv s n d).den=d/n.gcd d:=by
 rw [qv,Rat.den_mkRat,if_neg J,afB,Nat.gcd_comm]
theorem asP (s:Bool) {n d:Nat} (hn:0<n) (hd:0<d):decide (qv s n d<0)=s:=by
 have h1:(qv s n d).num=kD s n/(n.gcd d:Nat):=by rw [qv,Rat.num_mkRat,if_neg J,afB,Nat.gcd_comm]
 have hg:0<n.gcd d:=Nat.gcd_pos_of_pos_left _ hn
 have h2:=aha s hn hd
 have h3:n/n.gcd d≠0:=by
  have:=Nat.div_pos (Nat.le_of_dvd hn (Nat.gcd_dvd_left n d)) hg;omega
 cases s
 ·have:0<=(qv false n d).num:=by rw [h1];exact Int.ediv_nonneg (by simp [kD]) J
  simp only [decide_eq_false_iff_not];rw [aff];omega
 ·have:(qv true n d).num<=0:=by
   rw [h1];simp only [kD,cond_true]
   have gh:((n.gcd d:Nat):Int) ∣ (n:Int):=Int.natCast_dvd_natCast.2 (Nat.gcd_dvd_left _ _)
   rw [Int.neg_ediv_of_dvd gh]
   have:=Int.ediv_nonneg (a:=(n:Int)) (b:=(n.gcd d:Nat)) J J
   omega
  simp only [decide_eq_true_eq];rw [aff];omega
theorem ac3 (s:Bool) (d:Nat):qv s 0 d=0:=by rw [qv,auq,Rat.zero_mkRat]
theorem ail (s:Bool) (n:Nat):qv s n 0=0:=by rw [qv];simp
theorem kU (q:Rat):qv (decide (q<0)) q.num.natAbs q.den=q:=by rw [qv,alY,Rat.mkRat_self]
def uo (s:Bool) (q:Rat):Rat:=qv s q.num.natAbs q.den
theorem ae9 (q:Rat):uo (decide (q<0)) q=q:=kU q
theorem aAU (s:Bool) (n:Nat):kD (!s) n=- kD s n:=by cases s<;>simp [kD]
theorem ayz (q:Rat):uo (!decide (q<0)) q=-q:=by
 rw [uo,qv,aAU,<-Rat.neg_mkRat,alY,Rat.mkRat_self]
theorem afF (s t:Bool) (n d m e:Nat):qv s n d*qv t m e=qv (s != t) (n*m) (d*e):=by
 simp only [qv,Rat.mkRat_mul_mkRat]
 congr 1
 cases s<;>cases t<;>simp [kD,Int.mul_neg,Int.neg_mul]
theorem akb (s:Bool) {n d m e:Nat} (hd:0<d) (he:0<e):qv s n d+qv s m e=qv s (n*e+m*d) (d*e):=by
 simp only [qv];rw [Rat.mkRat_add_mkRat _ _ J J]
 congr 1
 cases s<;>simp [kD,Int.neg_mul]<;>omega
theorem amQ (s t:Bool) {n d m e:Nat} (hd:0<d) (he:0<e) (cQ:s≠t) (h:m*d<=n*e):qv s n d+qv t m e=qv s (n*e-m*d) (d*e):=by
 simp only [qv];rw [Rat.mkRat_add_mkRat _ _ J J]
 congr 1
 cases s<;>cases t<;>simp_all [kD,Int.neg_mul]<;>omega
theorem akB (s t:Bool) {n d m e:Nat} (hd:0<d) (he:0<e) (cQ:s≠t) (h:n*e<=m*d):qv s n d+qv t m e=qv t (m*d-n*e) (d*e):=by
 simp only [qv];rw [Rat.mkRat_add_mkRat _ _ J J]
 congr 1
 cases s<;>cases t<;>simp_all [kD,Int.neg_mul]<;>omega
theorem azh (x:Rat):(-x)⁻¹=-x⁻¹:=by grind
theorem aBa (s:Bool) (n d:Nat):(qv s n d)⁻¹=qv s d n:=by
 have h0:(qv false n d)⁻¹=qv false d n:=by
  simp only [qv,Rat.mkRat_eq_div,kD,cond_false]
  rw [Rat.div_def,Rat.inv_mul_rev,Rat.inv_inv,Rat.div_def]
  rfl
 cases s
 ·exact h0
 ·have e:∀ n d:Nat,qv true n d=- qv false n d:=fun n d=>by simp only [qv,kD,cond_true,cond_false,Rat.neg_mkRat]
  rw [e,e,azh,h0]
theorem afO (s t:Bool) (n d m e:Nat):qv s n d/qv t m e=qv (s != t) (n*e) (d*m):=by
 rw [Rat.div_def,aBa,afF]
theorem ai9 (s:Bool) {n d k:Nat} (hk:0<k):qv s (n*k) (d*k)=qv s n d:=by
 by_cases hd:d=0
 ·subst hd;simp [ail]
 simp only [qv]
 rw [Rat.mkRat_eq_iff (by have:=Nat.mul_pos (Nat.pos_of_ne_zero hd) hk;omega) hd]
 cases s<;>simp [kD]<;>grind
theorem tG (q:Rat):iG q=if q.den=1 then 0 else q.den:=rfl
def rl (q:Rat):Nat:=max (al q.num.natAbs).length (al q.den).length
theorem kY (q:Rat):(al q.num.natAbs).length<=rl q:=Nat.le_max_left _ _
theorem mE (q:Rat):(al q.den).length<=rl q:=Nat.le_max_right _ _
theorem lK (q:Rat):(al (iG q)).length<=rl q:=by
 rw [tG];split
 ·simp [tc]
 ·exact mE q
theorem at7 {q:Rat} {k:Nat} (hn:q.num.natAbs<4294967296 ^ k) (hd:q.den<4294967296 ^ k):rl q<=k :=
 Nat.max_le.2 ⟨u6 hn,u6 hd⟩
theorem aaT (q:Rat):q.num.natAbs<4294967296 ^ rl q/\q.den<4294967296 ^ rl q:=⟨rj (kY q),rj (mE q)⟩
theorem alr (q:Rat):1<=rl q:=by
 have:=mE q
 have h:al q.den≠[]:=fun h=>q.den_nz (pw.1 h)
 have:=List.length_pos_iff.2 h
 omega
theorem zM (s:Bool) {n d k:Nat} (hn:n<4294967296 ^ k) (hd:d<4294967296 ^ k):rl (qv s n d)<=max k 1:=by
 by_cases jw:d=0
 ·subst jw;rw [ail];exact Nat.le_trans (Nat.le_of_eq (by rfl)) (Nat.le_max_right _ _)
 by_cases gU:n=0
 ·subst gU;rw [ac3];exact Nat.le_trans (Nat.le_of_eq (by rfl)) (Nat.le_max_right _ _)
 refine Nat.le_trans (at7 (k:=k) ?_ ?_) (Nat.le_max_left _ _)
 ·rw [aha s J J];exact Nat.lt_of_le_of_lt (Nat.div_le_self _ _) hn
 ·rw [ak3 s n J];exact Nat.lt_of_le_of_lt (Nat.div_le_self _ _) hd
theorem afa (q:Rat):rl (-q)=rl q:=by simp [rl]
theorem yy {x y a b:Nat} (hx:x<4294967296 ^ a) (hy:y<4294967296 ^ b):x*y<4294967296 ^ (a+b):=by
 rw [Nat.pow_add];exact Nat.mul_lt_mul'' hx hy
theorem cO (a b:Rat):rl (a*b)<=rl a+rl b:=by
 have ha:=aaT a
 have hb:=aaT b
 have:=zM (decide (a<0) != decide (b<0)) (yy ha.1 hb.1) (yy ha.2 hb.2)
 rw [<-afF,kU,kU] at this
 have:=alr a
 omega
theorem oT (a b:Rat):rl (a/b)<=rl a+rl b:=by
 have ha:=aaT a
 have hb:=aaT b
 have:=zM (decide (a<0) != decide (b<0)) (yy ha.1 hb.2) (yy ha.2 hb.1)
 rw [<-afO,kU,kU] at this
 have:=alr a
 omega
theorem aqm {x y k:Nat} (hx:x<4294967296 ^ k) (hy:y<4294967296 ^ k):x+y<4294967296 ^ (k+1):=by
 rw [Nat.pow_succ];omega
theorem jx (a b:Rat):rl (a+b)<=rl a+rl b+1:=by
 have ha:=aaT a
 have hb:=aaT b
 have hd:=yy ha.2 hb.2
 have gh:a.den*b.den<4294967296 ^ (rl a+rl b+1):=Nat.lt_trans hd (Nat.pow_lt_pow_right J J)
 have h1:=yy ha.1 hb.2
 have h2:=yy ha.2 hb.1
 have hs:=aqm h1 h2
 have key:∀ n,n<=a.num.natAbs*b.den+a.den*b.num.natAbs->∀ s,a+b=qv s n (a.den*b.den)->rl (a+b)<=rl a+rl b+1:=by
  intro n hn s e
  rw [e]
  have:=zM s (Nat.lt_of_le_of_lt hn hs) gh
  omega
 rw [Nat.mul_comm a.den b.num.natAbs] at key
 by_cases cQ:decide (a<0)=decide (b<0)
 ·refine key _ (Nat.le_refl _) (decide (a<0)) ?_
  have:=akb (decide (a<0)) (n:=a.num.natAbs) (m:=b.num.natAbs) a.den_pos b.den_pos
  rw [<-this,kU,cQ,kU]
 ·rcases Nat.le_total (b.num.natAbs*a.den) (a.num.natAbs*b.den) with h | h
  ·refine key (a.num.natAbs*b.den-b.num.natAbs*a.den) J (decide (a<0)) ?_
   have:=amQ _ _ a.den_pos b.den_pos cQ h
   rw [<-this,kU,kU]
  ·refine key (b.num.natAbs*a.den-a.num.natAbs*b.den) J (decide (b<0)) ?_
   have:=akB _ _ a.den_pos b.den_pos cQ h
   rw [<-this,kU,kU]
theorem iq (a b:Rat):rl (a-b)<=rl a+rl b+1:=by
 have:=jx a (-b)
 rw [afa] at this
 rwa [Rat.sub_eq_add_neg]
theorem adJ (s:Bool) {n d:Nat} (hn:0<n) (hd:0<d):ae (qv s n d)=.agg [.v (.bool s),ba (n/n.gcd d),ba (if d/n.gcd d=1 then 0 else d/n.gcd d)]:=by
 rw [sB,asP s hn hd,aha s hn hd,tG,ak3 s n hd]
def fi (a b:Rat):Int:=if a<b then -1 else if b<a then 1 else 0
section
variable {P:Program} {H:bK} {ρ:Operand->LV} {T:TypeId} {p x:Operand} {b i d sz:Nat} {q:Rat} {vals:List LV} {m ag:Bool} {α:Type} {e:α->LV} {a:α}
theorem aB.avF (hp:ρ p=.aA b 3 i 0) (hb:H b=some ⟨3,vals,m⟩) (hi:vals[i]?=some (ae q)) (hT:bp P T 1 false):aB P H ρ (.load T p) (.v (.bool (decide (q<0)))):=.fu hp hb rfl hi (ao.au _) (axJ q) hT
theorem aB.asK (hp:ρ p=.aA b 3 i 1) (hb:H b=some ⟨3,vals,m⟩) (hi:vals[i]?=some (ae q)) (hT:bp P T 1 false):aB P H ρ (.load T p) (ba q.num.natAbs):=.fu hp hb rfl hi (ao.au _) (auz q) hT
theorem aB.au6 (hp:ρ p=.aA b 3 i 2) (hb:H b=some ⟨3,vals,m⟩) (hi:vals[i]?=some (ae q)) (hT:bp P T 1 false):aB P H ρ (.load T p) (ba (iG q)):=.fu hp hb rfl hi (ao.au _) (aun q) hT
theorem aB.ato (hp:ρ p=.aA b 3 i 0) (hb:H b=some ⟨3,vals,m⟩) (hi:vals[i]?=some (ae q)) (hT:bp P T 3 true):aB P H ρ (.load T p) (ae q):=.fu hp hb rfl hi (ao.au _) (nK q) hT
theorem c9.aaI (he:gE e sz ag) (hx:ρ x=e a):c9 P ρ d (.box T x) (.aA d sz 0 0) ⟨sz,[e a],true⟩:=by
 have h:=c9.box (P:=P) (ρ:=ρ) (d:=d) (T:=T) (x:=x) (by rw [hx];exact⟨fun h=>by have:=he.pure a;rw [h] at this;simp [LV.pure] at this,LV.dZ (he.pure a)⟩)
 rwa [hx,he.au] at h
theorem c9.avu (he:gE e sz ag) (hz:cU P T (e a)):c9 P ρ d (.alloc T) (.aA d sz 0 0) ⟨sz,[e a],true⟩:=by
 have h:=c9.alloc (ρ:=ρ) (d:=d) hz
 rwa [he.au] at h
end
section
variable {P:Program} {L:St} {dst:Option Nat} {T:TypeId} {p x:Operand} {b:Nat} {q:Rat} {zs:List LV}
theorem fI.aCn (hp:L.ev p=.aA b 3 0 0) (hb:L.heap b=some ⟨3,[.agg zs],true⟩) (hz:cF zs=3) (hx:L.ev x=ae q) (hT:bp P T 3 true) :
  fI P L dst (.store T p x) ((L.bG b (some ⟨3,[ae q],true⟩)).put dst .any):=by
 have h:=fI.store (P:=P) (dst:=dst) (T:=T) (p:=p) (x:=x) (y:=.agg zs) (y':=ae q) hp hb rfl rfl rfl (by simp [LV.au,hz])
  (by rw [hx];simp [LV.put,hz,ao.au,ao.isAgg]) (by rw [hx,ao.au,ao.isAgg];exact hT)
  (by rw [hx];exact⟨fun h=>by have:=ao.pure q;rw [h] at this;simp [LV.pure] at this,LV.dZ (ao.pure q)⟩)
 exact h
end
section
variable {P:Program} {H:bK} {ρ:Operand->LV} {T:TypeId} {p x y:Operand} {b i d sz:Nat} {s:Rat × Rat} {vals:List LV} {m ag:Bool} {q r:Rat}
theorem aB.az4 (hp:ρ p=.aA b 6 i 0) (hb:H b=some ⟨6,vals,m⟩) (hi:vals[i]?=some (aD s)) (hT:bp P T 3 true):aB P H ρ (.load T p) (ae s.1):=.fu hp hb rfl hi (bS.au _) (alb s) hT
theorem aB.av1 (hp:ρ p=.aA b 6 i 3) (hb:H b=some ⟨6,vals,m⟩) (hi:vals[i]?=some (aD s)) (hT:bp P T 3 true):aB P H ρ (.load T p) (ae s.2):=.fu hp hb rfl hi (bS.au _) (akX s) hT
theorem aB.axX (hp:ρ p=.aA b 6 i 0) (hb:H b=some ⟨6,vals,m⟩) (hi:vals[i]?=some (aD s)) (hT:bp P T 6 true):aB P H ρ (.load T p) (aD s):=.fu hp hb rfl hi (bS.au _) (yh s) hT
theorem aB.akK (hT:jV P T [(3,true),(3,true)]) (hz:cU P T (.agg [ae 0,ae 0])) (hx:ρ x=ae q) (hy:ρ y=ae r):aB P H ρ (.build T #[(0,x),(1,y)]) (aD (q,r)):=by
 have:=aB.build (P:=P) (H:=H) (ρ:=ρ) (T:=T) (ps:=#[(0,x),(1,y)]) (zs:=[ae 0,ae 0]) (by simpa [lay,ao.au,ao.isAgg] using hT) hz (by
  simp only [List.forall_mem_cons]
  exact⟨⟨_,rfl,by simp [lay,hx,ao.au,ao.isAgg],by rw [hx];exact⟨LV.eF (ao.pure _),LV.dZ (ao.pure _)⟩⟩,⟨_,rfl,by simp [lay,hy,ao.au,ao.isAgg],by rw [hy];exact⟨LV.eF (ao.pure _),LV.dZ (ao.pure _)⟩⟩,fun _ h=>by cases h⟩)
 rw [uw]
 simpa [iD,hx,hy] using this
theorem fI.axT {L:St} {dst:Option Nat} {s0:Rat × Rat} (hp:L.ev p=.aA b 6 0 0) (hb:L.heap b=some ⟨6,[aD s0],true⟩) (hx:L.ev x=aD s) (hT:bp P T 6 true) :
  fI P L dst (.store T p x) ((L.bG b (some ⟨6,[aD s],true⟩)).put dst .any):=by
 have h0:LV.put (aD s0) 0 (L.ev x)=some (aD s):=by
  rw [hx,uw s0]
  simp [LV.put,bS.au,bS.isAgg,cF,LV.au,ao.au]
 have h:=fI.store (P:=P) (dst:=dst) (T:=T) (p:=p) (x:=x) (y:=aD s0) (y':=aD s) hp hb rfl rfl rfl (bS.au _) h0 (by rw [hx,bS.au,bS.isAgg];exact hT)
  (by rw [hx];exact⟨LV.eF (bS.pure s),LV.dZ (bS.pure s)⟩)
 exact h
end
theorem ajQ {L:St} {α:Type} {e:α->LV} {ag:Bool} {bs:List Nat} {b sz off len:Nat} {l l':List α} {m:Bool} (he:gE e sz ag) (hb:L.heap b=some ⟨sz,l.map e,m⟩) (px:bs.contains b=true) (hl:off+len<=l.length) (h:(l.drop off).take len=l') :
  cG (L.bR bs).heap (.ref b sz off len) (.list sz (l'.map e)):=by
 have:=acj (L:=L) (bs:=bs) (off:=off) (len:=len) hb px (aW he l) (by simpa using hl)
 rwa [<-List.map_drop,<-List.map_take,h] at this
theorem azU {n:Int} (h1:-9223372036854775808<n) (h2:n<=9223372036854775807):(if IntKind.i64.wrap (0-n) > n then IntKind.i64.wrap (0-n) else n)=((n.natAbs:Nat):Int):=by
 rw [IntWalk.i64_in _ J];split<;>omega
theorem acs (n:Int):qv (decide (n<0)) n.natAbs 1=(n:Rat):=by
 have:kD (decide (n<0)) n.natAbs=n:=by
  by_cases h:n<0
  ·simp only [h,decide_true,kD,cond_true];omega
  ·simp only [h,decide_false,kD,cond_false];omega
 rw [qv,this,Rat.mkRat_one]
theorem ac1 (n d:Int):qv (decide (n<0) != decide (d<0)) n.natAbs d.natAbs=(n:Rat)/(d:Rat):=by
 rw [<-acs n,<-acs d,afO];simp
theorem azX {q:Rat} (h:q.den<4294967296):(al (iG q)).length<=1:=rL.2 (by rw [tG];split<;>omega)
theorem afz {q:Rat} (h:0<(al (iG q)).length):iG q=q.den:=by
 rw [tG] at h ⊢;split
 ·rename_i h1;rw [if_pos h1] at h;simp [tc] at h
 ·rfl
theorem ag7 {q:Rat} (h:(al (iG q)).length=0):q.den=1:=by
 have h0:=pw.1 (List.eq_nil_of_length_eq_zero h)
 rw [tG] at h0
 have:=q.den_pos
 split at h0
 ·assumption
 ·omega
def vv (q:Rat):Bool:=decide (q.num.natAbs<4294967296/\q.den<4294967296)
def pN (q:Rat):Nat:=if vv q then q.num.natAbs else 0
def pD (q:Rat):Nat:=if vv q then q.den else 0
def cM (a:Rat):Int:=if a=0 then 0 else if a<0 then -1 else 1
theorem aq1 (q:Rat):cM q=if q.num.natAbs=0 then 0 else if q<0 then -1 else 1:=by
 unfold cM
 by_cases h:q=0
 ·subst h;rfl
 ·have:¬ q.num.natAbs=0:=fun h2=>h (Rat.num_eq_zero.1 J)
  rw [if_neg h,if_neg this]
def nU (l:List Nat) (off n:Nat):List Nat:=if n<4294967296 then l.set off n else(l.set off (n % 4294967296)).set (off+1) (n/4294967296)
def k5 (n:Nat):Nat:=if n<4294967296 then 1 else 2
theorem acw {n:Nat} (h0:0<n) (h:n<18446744073709551616):(n<4294967296/\k5 n=1/\al n=[n])\/(4294967296<=n/\k5 n=2/\al n=[n % 4294967296,n/4294967296]):=by
 by_cases hn:n<4294967296
 ·exact .inl ⟨hn,by simp [k5,hn],aaV h0 hn⟩
 ·refine .inr ⟨J,by simp [k5,hn],?_⟩
  rw [zb h0,aaV J J]
theorem aBK {n:Nat} (h0:0<n) (h:n<18446744073709551616):((nU [0,0,0,0] 0 n).drop 0).take (k5 n)=al n:=by
 rcases acw h0 h with⟨h1,h2,h3⟩ | ⟨h1,h2,h3⟩
 ·rw [h2,h3];simp [nU,h1]
 ·rw [h2,h3];simp [nU,Nat.not_lt.2 h1]
theorem atH {n d:Nat} (h0:0<n) (h:n<18446744073709551616) (g0:0<d) (g:d<18446744073709551616) :
  ((nU (nU [0,0,0,0] 0 n) (k5 n) d).drop 0).take (k5 n)=al n/\((nU (nU [0,0,0,0] 0 n) (k5 n) d).drop (k5 n)).take (k5 d)=al d:=by
 rcases acw h0 h with⟨h1,h2,h3⟩ | ⟨h1,h2,h3⟩<;>rcases acw g0 g with⟨g1,g2,g3⟩ | ⟨g1,g2,g3⟩<;>rw [h2,h3,g2,g3]<;>simp [nU, *,Nat.not_lt.2]
theorem agE (l:List Nat) (off n:Nat):(nU l off n).length=l.length:=by unfold nU;split<;>simp
section
variable {P:Program} {ρ:Operand->LV} {α:Type} {e:α->LV}
theorem c9.awv {T E:TypeId} {x y w:Operand} {d sz:Nat} {ag:Bool} {z a b c:α} (he:gE e sz ag) (hT:P.underlying T=some (.slice E)) (hz:cU P E (e z)) (hE:bp P E sz ag) (hx:ρ x=e a) (hy:ρ y=e b) (hw:ρ w=e c) (dq:0<sz) (jm:sz<=1000) :
  c9 P ρ d (.buildSlice T 3 #[(0,x),(1,y),(2,w)]) (.ref d sz 0 3) ⟨sz,[a,b,c].map e,true⟩:=by
 have aQ:∀ v,ρ v=e a\/ρ v=e b\/ρ v=e c->lay (ρ v)=lay (e z)/\ρ v≠.any/\∀ m,ρ v≠.a7 m:=by
  rintro v (h | h | h)<;>rw [h]<;>exact⟨by simp [lay,he.au,he.isAgg],LV.eF (he.pure _),LV.dZ (he.pure _)⟩
 have:=c9.lit (P:=P) (ρ:=ρ) (d:=d) (T:=T) (n:=3) (ps:=#[(0,x),(1,y),(2,w)]) hT hz (by rw [he.isAgg];exact hE) (he.au z) J J dq (by
  intro p hp
  simp only [List.mem_cons,List.not_mem_nil,or_false] at hp
  rcases hp with rfl | rfl | rfl
  ·exact⟨by show 0<3;omega,aQ x (.inl hx)⟩
  ·exact⟨by show 1<3;omega,aQ y (.inr (.inl hy))⟩
  ·exact⟨by show 2<3;omega,aQ w (.inr (.inr hw))⟩)
 simpa [iD,hx,hy,hw,List.replicate] using this
theorem c9.ak2 {T E:TypeId} {x y w z':Operand} {d sz:Nat} {ag:Bool} {z a b c f:α} (he:gE e sz ag) (hT:P.underlying T=some (.slice E)) (hz:cU P E (e z)) (hE:bp P E sz ag) (hx:ρ x=e a) (hy:ρ y=e b) (hw:ρ w=e c) (hf:ρ z'=e f) (dq:0<sz) (jm:sz<=1000) :
  c9 P ρ d (.buildSlice T 4 #[(0,x),(1,y),(2,w),(3,z')]) (.ref d sz 0 4) ⟨sz,[a,b,c,f].map e,true⟩:=by
 have aQ:∀ v,ρ v=e a\/ρ v=e b\/ρ v=e c\/ρ v=e f->lay (ρ v)=lay (e z)/\ρ v≠.any/\∀ m,ρ v≠.a7 m:=by
  rintro v (h | h | h | h)<;>rw [h]<;>exact⟨by simp [lay,he.au,he.isAgg],LV.eF (he.pure _),LV.dZ (he.pure _)⟩
 have:=c9.lit (P:=P) (ρ:=ρ) (d:=d) (T:=T) (n:=4) (ps:=#[(0,x),(1,y),(2,w),(3,z')]) hT hz (by rw [he.isAgg];exact hE) (he.au z) J J dq (by
  intro p hp
  simp only [List.mem_cons,List.not_mem_nil,or_false] at hp
  rcases hp with rfl | rfl | rfl | rfl
  ·exact⟨by show 0<4;omega,aQ x (.inl hx)⟩
  ·exact⟨by show 1<4;omega,aQ y (.inr (.inl hy))⟩
  ·exact⟨by show 2<4;omega,aQ w (.inr (.inr (.inl hw)))⟩
  ·exact⟨by show 3<4;omega,aQ z' (.inr (.inr (.inr hf)))⟩)
 simpa [iD,hx,hy,hw,hf,List.replicate] using this
end
theorem ju {P:Program} {L L0:St} {c:Code} {Q:iS->St->Prop} (hw:aw L L0) (h:cx P (.loop c) Q L0):cx P (.loop c) Q L:=by
 intro I hI
 obtain⟨L1,h1,h2⟩:=h I hI
 exact⟨L1,hw.trans h1,h2⟩
section
variable {P:Program} {ops:Array Oper} {D:Array Bool} {L:St} {K:St->Prop} {fuel:Nat}
theorem eO (hr:Region.ready .any ops D=[]) (k:K L):ic P ops fuel D L K:=by
 cases fuel with
 | zero=>exact⟨hr,k⟩
 | succ n=>exact⟨fun _=>k,fun i hi=>by rw [hr] at hi;cases hi⟩
theorem aV (i:Nat) (o:Oper) (hr:Region.ready .any ops D=[i]) (ho:ops[i]?=some o) (h:opsL P false ops [o] L (fun L'=>ic P ops fuel (D.setIfInBounds i true) L' K)):ic P ops (fuel+1) D L K:=by
 refine⟨fun e=>(by rw [hr] at e;cases e),fun j hj=>?_⟩
 rw [hr,List.mem_singleton] at hj
 subst hj
 obtain⟨L',h1,h2⟩:=h
 exact⟨o,L',ho,h1,h2⟩
theorem iR (i j:Nat) (o o2:Oper) (hr:Region.ready .any ops D=[i,j]) (ho:ops[i]?=some o) (ho2:ops[j]?=some o2) (h:opsL P false ops [o] L (fun L'=>ic P ops fuel (D.setIfInBounds i true) L' K))
  (h2:opsL P false ops [o2] L (fun L'=>ic P ops fuel (D.setIfInBounds j true) L' K)):ic P ops (fuel+1) D L K:=by
 refine⟨fun e=>(by rw [hr] at e;cases e),fun x hx=>?_⟩
 rw [hr] at hx
 simp only [List.mem_cons,List.not_mem_nil,or_false] at hx
 rcases hx with rfl | rfl
 ·obtain⟨L',h1,h3⟩:=h
  exact⟨o,L',ho,h1,h3⟩
 ·obtain⟨L',h1,h3⟩:=h2
  exact⟨o2,L',ho2,h1,h3⟩
end
class UN (P:Program) (T:TypeId) (d:outParam TypeDesc):Prop where
 h:P.underlying T=some d
class TI (P:Program) (T:TypeId) (sz:outParam Nat) (ag:outParam Bool):Prop where
 h:bp P T sz ag
class SI (P:Program) (T:TypeId) (l:outParam (List (Nat × Bool))):Prop where
 h:jV P T l
class BI (P:Program) (T:TypeId) (n:outParam Nat):Prop where
 h:kM P T n
class ZI (P:Program) (T:TypeId) (z:outParam LV):Prop where
 h:cU P T z
class EC (P:Program) (T:TypeId) {α:outParam Type} (e:outParam (α->LV)) (sz:outParam Nat) (ag:outParam Bool) (z:outParam α):Prop where
 h:gE e sz ag
 z:cU P T (e z)
 t:bp P T sz ag
class AE (P:Program) (T:TypeId) {α:outParam Type} (e:outParam (α->LV)) (sz:outParam Nat) (ag:outParam Bool) (z:outParam α):Prop where
 h:gE e sz ag
 z:cU P T (e z)
theorem zHs {p:Prop} (h:p:=by first | (simp only [hce,l1,t0,t1,fc,bU];exact rfl) | exact rfl):p:=h
theorem af4 {S:St->St} {L L1:St} (h:S L1=L):∃ L1,aw L (S L1):=⟨L1,aw.of_eq h⟩
def axi:BinOp->Bool
 | .eql | .neq | .lss | .leq | .gtr | .geq=>true
 | _=>false
section
variable {P:Program} {H:bK} {ρ:Operand->LV} {α:Type} {e:α->LV} {sz:Nat} {ag:Bool} {z a:α} {T E:TypeId} {p x i:Operand} {L L0:St} {Q:iS->St->Prop} {K:St->Prop}
theorem aB.ldB [c:EC P T e sz ag z] (hp:ρ p=.bV (e a)):aB P H ρ (.load T p) (e a):=.afD c.h hp c.t
theorem aB.ldE [Inhabited α] [c:EC P T e sz ag z] {b i:Nat} {l:List α} {m:Bool} (hp:ρ p=.aA b sz i 0) (hb:H b=some ⟨sz,l.map e,m⟩) (hi:i<l.length):aB P H ρ (.load T p) (e (l.getD i default)):=.alZ c.h hp hb c.t hi
theorem aB.ixL [Inhabited α] [u:UN P T (.slice E)] [c:EC P E e sz ag z] {l:List α} {k:IntKind} {n:Int} (hx:ρ x=.list sz (l.map e)) (hi:ρ i=.v (.int k n)) (h0:0<=n) (hn:n<l.length) :
  aB P H ρ (.indexAddr T x i) (.bV (e (l.getD n.toNat default))):=.ajw c.h hx u.h c.t hi h0 hn
theorem aB.ixR [u:UN P T (.slice E)] [c:TI P E sz ag] {b off len:Nat} {k:IntKind} {n:Int} (hx:ρ x=.ref b sz off len) (hi:ρ i=.v (.int k n)) (h0:0<=n) (hn:n<len) :
  aB P H ρ (.indexAddr T x i) (.aA b sz (off+n.toNat) 0):=.tB hx u.h c.h hi h0 hn
theorem aB.cmp {op:BinOp} {U:TypeId} {y:Operand} {k:IntKind} {a b:Int} {r:Value} (hc:axi op=true) (hx:ρ x=.v (.int k a)) (hy:ρ y=.v (.int k b)) (h:dk op k a b=some r):aB P H ρ (.binOp op T x y U) (.v r):=.bin hx hy h
theorem fI.yQ [Inhabited α] [c:EC P T e sz ag z] {dst:Option Tmp} {b i:Nat} {l:List α} (hp:L.ev p=.aA b sz i 0) (hb:L.heap b=some ⟨sz,l.map e,true⟩) (hx:L.ev x=e a) (hi:i<l.length) :
  fI P L dst (.store T p x) ((L.bG b (some ⟨sz,(l.set i a).map e,true⟩)).put dst .any):=.asF c.h hp hb hx c.t hi
theorem c9.kK {du:Nat} [u:UN P T (.slice E)] [c:EC P E e sz ag z] [b:BI P E du] {d n m:Nat} {kl kc:IntKind} (hl:ρ x=.v (.int kl (n:Nat))) (hc:ρ i=.v (.int kc (m:Nat))) (je:n<=m) (hm:du*m<=281474976710656) (dY:m<=9223372036854775807) :
  c9 P ρ d (.makeSlice T x i) (.ref d sz 0 n) ⟨sz,(List.replicate n z).map e,true⟩:=.ajn c.h u.h c.z c.t b.h hl hc je hm dY
theorem c9.vS [c:EC P T e sz ag z] {d:Nat} (hx:ρ x=e a):c9 P ρ d (.box T x) (.aA d sz 0 0) ⟨sz,[e a],true⟩:=.aaI c.h hx
theorem aC {c:Operand} {x y:Code} {t:Bool} {u v:Prop} (hc:L.ev c=.v (.bool t)) (h1:t=true->u->cx P x Q L) (h2:t=false->v->cx P y Q L)
  (e1:(t=true)=u:=by exact zHs) (e2:(t=false)=v:=by exact zHs):cx P (.cond c x y) Q L:=agL hc (fun h=>h1 h (e1 ▸ h)) (fun h=>h2 h (e2 ▸ h))
theorem c9.alE [c:AE P T e sz ag z] {d:Nat}:c9 P ρ d (.alloc T) (.aA d sz 0 0) ⟨sz,[e z],true⟩:=.avu c.h c.z
theorem c9.l0 [u:UN P T (.slice E)] [t:TI P E sz ag] {d:Nat}:c9 P ρ d (.buildSlice T 0 #[]) (.ref d sz 0 0) ⟨sz,[],true⟩:=.ad8 u.h t.h
theorem c9.l1 [u:UN P T (.slice E)] [c:EC P E e sz ag z] {d:Nat} {x0:Operand} {a0:α} (h0:ρ x0=e a0) (dq:0<sz:=by decide) (jm:sz<=1000:=by decide):c9 P ρ d (.buildSlice T 1 #[(0,x0)]) (.ref d sz 0 1) ⟨sz,[a0].map e,true⟩:=.ahW c.h u.h c.z c.t h0 dq jm
theorem c9.l2 [u:UN P T (.slice E)] [c:EC P E e sz ag z] {d:Nat} {x0 x1:Operand} {a0 a1:α} (h0:ρ x0=e a0) (h1:ρ x1=e a1) (dq:0<sz:=by decide) (jm:sz<=1000:=by decide):c9 P ρ d (.buildSlice T 2 #[(0,x0),(1,x1)]) (.ref d sz 0 2) ⟨sz,[a0,a1].map e,true⟩:=.aml c.h u.h c.z c.t h0 h1 dq jm
theorem c9.l3 [u:UN P T (.slice E)] [c:EC P E e sz ag z] {d:Nat} {x0 x1 x2:Operand} {a0 a1 a2:α} (h0:ρ x0=e a0) (h1:ρ x1=e a1) (h2:ρ x2=e a2) (dq:0<sz:=by decide) (jm:sz<=1000:=by decide):c9 P ρ d (.buildSlice T 3 #[(0,x0),(1,x1),(2,x2)]) (.ref d sz 0 3) ⟨sz,[a0,a1,a2].map e,true⟩:=.awv c.h u.h c.z c.t h0 h1 h2 dq jm
theorem c9.l4 [u:UN P T (.slice E)] [c:EC P E e sz ag z] {d:Nat} {x0 x1 x2 x3:Operand} {a0 a1 a2 a3:α} (h0:ρ x0=e a0) (h1:ρ x1=e a1) (h2:ρ x2=e a2) (h3:ρ x3=e a3) (dq:0<sz:=by decide) (jm:sz<=1000:=by decide):c9 P ρ d (.buildSlice T 4 #[(0,x0),(1,x1),(2,x2),(3,x3)]) (.ref d sz 0 4) ⟨sz,[a0,a1,a2,a3].map e,true⟩:=.ak2 c.h u.h c.z c.t h0 h1 h2 h3 dq jm
theorem dy {dr:Bool} {ops:Array Oper} {l:List Oper} (d:Nat) {b:Bool} {u v:Prop} (h:L.slot d=.v (.bool b)) (ht:b=true->u->opsL P dr ops l L K) (hf:b=false->v->opsL P dr ops l L K)
  (e1:(b=true)=u:=by exact zHs) (e2:(b=false)=v:=by exact zHs):opsL P dr ops l L K:=aA3 h (fun h=>ht h (e1 ▸ h)) (fun h=>hf h (e2 ▸ h))
theorem aB.bd {zs:List LV} {l:List (Nat × Bool)} {ps:Array (Nat × Operand)} [z:ZI P T (.agg zs)] [s:SI P T l] (h:zs.map lay=l) (hp:∀ p∈ps.toList,∃ z,zs[p.1]?=some z/\lay (ρ p.2)=lay z/\ρ p.2≠.any/\∀ m,ρ p.2≠.a7 m) :
  aB P H ρ (.build T ps) (.agg (iD zs (ps.toList.map fun p=>(p.1,ρ p.2)))):=.build (h ▸ s.h) z.h hp
end
namespace H0
theorem aH {p q:Prop} (k:q) (e:p=q:=by simp only [e1,e2,e3,e4,p1,p2,p3,q1,q2,q3,l1,t0,t1,r1,r2,r3,r4,Nat.zero_add,Nat.reduceMul,Nat.reduceAdd,b1,b2,b3,b4,b5,b6,i1,i2,i3,i4,i5,i6,Nat.reduceBEq];exact rfl):p:=e.mpr k
end H0
theorem oo {p:Prop} (h:p:=by omega):p:=h
theorem om {p:Prop} (h:p:=by first | (refine aH ?_;omega) | omega):p:=h
theorem nf {p:Prop} (h:p:=by first | (refine aH ?_;exact rfl) | exact rfl):p:=h
theorem cl {p:Prop} (h:p:=by first | rfl | (refine aH ?_;first | exact trivial | rfl | (congr 3<;>omega) | (congr 2<;>omega))):p:=h
theorem ml {p:Prop} (h:p:=by first | rfl | (refine aH ?_;first | exact trivial | rfl | (congr 2<;>omega))):p:=h
theorem nt1:(!true)=false:=rfl
theorem nt2:(!false)=true:=rfl
theorem sa {p:Prop} (h:p:=by first | assumption | with_reducible rfl | with_reducible exact nt1 | with_reducible exact nt2):p:=h
theorem gd {p:Prop} (h:p:=by first | exact rfl | exact a6 (v:=true) rfl rfl sa rfl | exact a6 (v:=false) rfl rfl sa rfl):p:=h
theorem nes {p:Prop} (h:p:=by first | (intro p hp;cases hp;done) | (simp only [List.forall_mem_cons];first | exact⟨⟨_,rfl,rfl,kH⟩,fun _ h=>by cases h⟩ | exact⟨⟨_,rfl,rfl,kH⟩,⟨_,rfl,rfl,kH⟩,fun _ h=>by cases h⟩ | exact⟨⟨_,rfl,rfl,kH⟩,⟨_,rfl,rfl,kH⟩,⟨_,rfl,rfl,kH⟩,fun _ h=>by cases h⟩ | exact⟨⟨_,rfl,rfl,kH⟩,⟨_,rfl,rfl,kH⟩,⟨_,rfl,rfl,kH⟩,⟨_,rfl,rfl,kH⟩,fun _ h=>by cases h⟩)):p:=h
theorem aK {p:Prop} (h:p:=by exact .cons eJ .nil):p:=h
theorem aq {p:Prop} (h:p:=by exact .cons eJ (.cons eJ .nil)):p:=h
theorem fJ {p:Prop} (h:p:=by exact .cons eJ (.cons eJ (.cons eJ .nil))):p:=h
theorem am5 {p:Prop} (h:p:=by exact .cons eJ (.cons eJ (.cons eJ (.cons eJ (.cons eJ .nil))))):p:=h
theorem am0 {p:Prop} (h:p:=by exact .nil):p:=h
theorem pB {p:Prop} (h:p:=by exact .cons im1 .nil):p:=h
section
variable {P:Program} {dr:Bool} {ops:Array Oper} {rest:List Oper} {L:St} {K:St->Prop} {dst:Option Tmp} {ty:TypeId} {pos:String} {af:Array Edge} {g:Option (Nat × Bool)}
theorem cp {f:FuncId} {xs:Array Operand} {as:Array TypeId} {args:List LV} {r:LV} (ha:eU L.heap (xs.toList.map L.ev) args) (hk:av P f args r) (k:opsL P dr ops rest (L.put dst r) K)
  (hg:dE ops L ⟨dst,.call ⟨.value (.func f),xs,as⟩,ty,pos,af,g⟩ true:=by exact gd):opsL P dr ops (⟨dst,.call ⟨.value (.func f),xs,as⟩,ty,pos,af,g⟩ :: rest) L K:=gL hg ha hk k
theorem pO {f:FuncId} {xs:Array Operand} {as:Array TypeId} {args:List LV} {r:LV} (bs:List Nat) (ha:eU (L.bR bs).heap (xs.toList.map L.ev) args) (hk:av P f args r) (k:opsL P dr ops rest ((L.bR bs).put dst r) K)
  (hg:dE ops L ⟨dst,.call ⟨.value (.func f),xs,as⟩,ty,pos,af,g⟩ true:=by exact gd) (h0:bs.contains 0=false:=by exact rfl):opsL P dr ops (⟨dst,.call ⟨.value (.func f),xs,as⟩,ty,pos,af,g⟩ :: rest) L K:=afv bs hg h0 ha hk k
end
def Nx1 {α:Type} (S:α->St->St) (C:α->Prop) (μ:α->Nat) (a:α) (L:St):Prop:=∃ a' L2,C a'/\μ a'<μ a/\aw L (S a' L2)
theorem dG {α:Type} {P:Program} {Q:iS->St->Prop} {L:St} {k:Code} (S:α->St->St) (C:α->Prop) (μ:α->Nat) (a:α) (hC:C a) (hr:∀ a' L1,C a'->cx P k (nn (Nx1 S C μ a') Q) (S a' L1))
  (h0:∃ L1,aw L (S a L1):=by apply af4;repeat (first | exact bC cl | refine aj ?_ cl)):cx P (.loop k) Q L:=by
 refine ad1 (α:=α) (fun x=>S x) (fun x=>C x) (fun x=>μ x) a hC h0 ?_
 rintro a' L1 hc
 refine aag (fun e L h=>?_) (hr a' L1 hc)
 cases e with
 | normal =>
  obtain⟨a1,L2,h1,h2,h3⟩:=h
  exact⟨a1,L2,h1,h2,h3⟩
 | exit i=>exact h
 | ret=>exact h
theorem iJ {α:Type} {S:α->St->St} {C:α->Prop} {μ:α->Nat} {a:α} {L L2:St} (a':α) (hc:C a') (hm:μ a'<μ a:=by omega) (he:aw L (S a' L2):=by apply aw.of_eq;repeat (first | exact bC cl | refine aj ?_ cl)):Nx1 S C μ a L:=⟨a',L2,hc,hm,he⟩
def Nx2 {α β:Type} (S:α->β->St->St) (C:α->β->Prop) (μ:α->β->Nat) (a:α) (b:β) (L:St):Prop:=∃ a' b' L2,C a' b'/\μ a' b'<μ a b/\aw L (S a' b' L2)
theorem jL {α β:Type} {P:Program} {Q:iS->St->Prop} {L:St} {k:Code} (S:α->β->St->St) (C:α->β->Prop) (μ:α->β->Nat) (a:α) (b:β) (hC:C a b) (hr:∀ a' b' L1,C a' b'->cx P k (nn (Nx2 S C μ a' b') Q) (S a' b' L1))
  (h0:∃ L1,aw L (S a b L1):=by apply af4;repeat (first | exact bC cl | refine aj ?_ cl)):cx P (.loop k) Q L:=by
 refine ad1 (α:=α × β) (fun x=>S x.1 x.2) (fun x=>C x.1 x.2) (fun x=>μ x.1 x.2) (a,b) hC h0 ?_
 rintro⟨a',b'⟩ L1 hc
 refine aag (fun e L h=>?_) (hr a' b' L1 hc)
 cases e with
 | normal =>
  obtain⟨a1,b1,L2,h1,h2,h3⟩:=h
  exact⟨(a1,b1),L2,h1,h2,h3⟩
 | exit i=>exact h
 | ret=>exact h
theorem fU {α β:Type} {S:α->β->St->St} {C:α->β->Prop} {μ:α->β->Nat} {a:α} {b:β} {L L2:St} (a':α) (b':β) (hc:C a' b') (hm:μ a' b'<μ a b:=by omega) (he:aw L (S a' b' L2):=by apply aw.of_eq;repeat (first | exact bC cl | refine aj ?_ cl)):Nx2 S C μ a b L:=⟨a',b',L2,hc,hm,he⟩
def Nx3 {α β γ:Type} (S:α->β->γ->St->St) (C:α->β->γ->Prop) (μ:α->β->γ->Nat) (a:α) (b:β) (c:γ) (L:St):Prop:=∃ a' b' c' L2,C a' b' c'/\μ a' b' c'<μ a b c/\aw L (S a' b' c' L2)
theorem rf {α β γ:Type} {P:Program} {Q:iS->St->Prop} {L:St} {k:Code} (S:α->β->γ->St->St) (C:α->β->γ->Prop) (μ:α->β->γ->Nat) (a:α) (b:β) (c:γ) (hC:C a b c) (hr:∀ a' b' c' L1,C a' b' c'->cx P k (nn (Nx3 S C μ a' b' c') Q) (S a' b' c' L1))
  (h0:∃ L1,aw L (S a b c L1):=by apply af4;repeat (first | exact bC cl | refine aj ?_ cl)):cx P (.loop k) Q L:=by
 refine ad1 (α:=α × β × γ) (fun x=>S x.1 x.2.1 x.2.2) (fun x=>C x.1 x.2.1 x.2.2) (fun x=>μ x.1 x.2.1 x.2.2) (a,b,c) hC h0 ?_
 rintro⟨a',b',c'⟩ L1 hc
 refine aag (fun e L h=>?_) (hr a' b' c' L1 hc)
 cases e with
 | normal =>
  obtain⟨a1,b1,c1,L2,h1,h2,h3⟩:=h
  exact⟨(a1,b1,c1),L2,h1,h2,h3⟩
 | exit i=>exact h
 | ret=>exact h
theorem qc {α β γ:Type} {S:α->β->γ->St->St} {C:α->β->γ->Prop} {μ:α->β->γ->Nat} {a:α} {b:β} {c:γ} {L L2:St} (a':α) (b':β) (c':γ) (hc:C a' b' c') (hm:μ a' b' c'<μ a b c:=by omega) (he:aw L (S a' b' c' L2):=by apply aw.of_eq;repeat (first | exact bC cl | refine aj ?_ cl)):Nx3 S C μ a b c L:=⟨a',b',c',L2,hc,hm,he⟩
def Nx4 {α β γ δ:Type} (S:α->β->γ->δ->St->St) (C:α->β->γ->δ->Prop) (μ:α->β->γ->δ->Nat) (a:α) (b:β) (c:γ) (d:δ) (L:St):Prop:=∃ a' b' c' d' L2,C a' b' c' d'/\μ a' b' c' d'<μ a b c d/\aw L (S a' b' c' d' L2)
theorem lp4 {α β γ δ:Type} {P:Program} {Q:iS->St->Prop} {L:St} {k:Code} (S:α->β->γ->δ->St->St) (C:α->β->γ->δ->Prop) (μ:α->β->γ->δ->Nat) (a:α) (b:β) (c:γ) (d:δ) (hC:C a b c d) (hr:∀ a' b' c' d' L1,C a' b' c' d'->cx P k (nn (Nx4 S C μ a' b' c' d') Q) (S a' b' c' d' L1))
  (h0:∃ L1,aw L (S a b c d L1):=by apply af4;repeat (first | exact bC cl | refine aj ?_ cl)):cx P (.loop k) Q L:=by
 refine ad1 (α:=α × β × γ × δ) (fun x=>S x.1 x.2.1 x.2.2.1 x.2.2.2) (fun x=>C x.1 x.2.1 x.2.2.1 x.2.2.2) (fun x=>μ x.1 x.2.1 x.2.2.1 x.2.2.2) (a,b,c,d) hC h0 ?_
 rintro⟨a',b',c',d'⟩ L1 hc
 refine aag (fun e L h=>?_) (hr a' b' c' d' L1 hc)
 cases e with
 | normal =>
  obtain⟨a1,b1,c1,d1,L2,h1,h2,h3⟩:=h
  exact⟨(a1,b1,c1,d1),L2,h1,h2,h3⟩
 | exit i=>exact h
 | ret=>exact h
theorem oP {α β γ δ:Type} {S:α->β->γ->δ->St->St} {C:α->β->γ->δ->Prop} {μ:α->β->γ->δ->Nat} {a:α} {b:β} {c:γ} {d:δ} {L L2:St} (a':α) (b':β) (c':γ) (d':δ) (hc:C a' b' c' d') (hm:μ a' b' c' d'<μ a b c d:=by omega) (he:aw L (S a' b' c' d' L2):=by apply aw.of_eq;repeat (first | exact bC cl | refine aj ?_ cl)):Nx4 S C μ a b c d L:=⟨a',b',c',d',L2,hc,hm,he⟩
structure V3 where
 x:Rat
 y:Rat
 z:Rat
instance:Inhabited V3:=⟨⟨0,0,0⟩⟩
def aS (p:V3):LV:=.agg [ae p.x,ae p.y,ae p.z]
theorem bg:gE aS 9 true:=by
 refine⟨fun s=>?_,fun s=>rfl,fun s=>?_⟩<;>simp [aS,LV.au,cF,LV.pure,aG,ao.au,ao.pure]
structure aF where
 p:V3
 w:Rat
instance:Inhabited aF:=⟨⟨⟨0,0,0⟩,0⟩⟩
def aT (q:aF):LV:=.agg [aS q.p,ae q.w]
theorem bw:gE aT 12 true:=by
 refine⟨fun s=>?_,fun s=>rfl,fun s=>?_⟩<;>simp [aT,LV.au,cF,LV.pure,aG,ao.au,ao.pure,bg.au,bg.pure]
theorem qL (l:List LV):(LV.agg l).isAgg=true:=rfl
theorem aaD (c:Value):(LV.v c).isAgg=false:=rfl
theorem laE {p:Prop} (h:p:=by(simp only [List.forall_mem_cons];simp [lay,LV.au,cF,qL,aaD,ao.au,bS.au,ao.isAgg,bS.isAgg])):p:=h
theorem cs {p:Prop} (h:p:=by first | exact rfl | (simp [LV.au,cF,lay,qL,aaD,ao.au,bS.au,bg.au,bw.au,ao.isAgg,bS.isAgg,bg.isAgg,bw.isAgg];done)):p:=h
theorem pu {p:Prop} (h:p:=by first | exact rfl | (simp [LV.pure,aG,ao.pure,bS.pure,bg.pure,bw.pure, *];done)):p:=h
theorem dJ {y:LV} {n:Nat} (hy:y.au=n) (ha:y.isAgg=true):y.at 0 n true=some y:=by
 cases y with
 | agg l=>simp only [LV.au] at hy;simp [LV.at,hy]
 | _=>cases ha
theorem ahM (a b:Rat):(ae a).put 0 (ae b)=some (ae b):=adg _ _ (by rw [ao.au,ao.au]) (by rw [ao.isAgg,ao.isAgg])
theorem axM (a b:Rat × Rat):(aD a).put 0 (aD b)=some (aD b):=adg _ _ (by rw [bS.au,bS.au]) (by rw [bS.isAgg,bS.isAgg])
theorem ayN (s:Rat × Rat) (r:Rat):(aD s).put 0 (ae r)=some (aD (r,s.2)):=by
 rw [uw,uw];simp [LV.put,uE,cF,ao.au,ao.isAgg,ahM]
theorem auR (s:Rat × Rat) (r:Rat):(aD s).put 3 (ae r)=some (aD (s.1,r)):=by
 rw [uw,uw];simp [LV.put,uE,cF,ao.au,ao.isAgg,ahM]
theorem atp {p:Prop} (h:p:=by first | exact dJ (y:=aS _) (bg.au _) rfl | exact dJ (y:=aT _) (bw.au _) rfl | exact rfl | (simp only [l7,List.take_succ_cons,List.take_zero,List.take_nil,LV.at,q8,aS,aT,dJ,nK,yh,alb,akX,LV.au,cF,ao.au,bS.au,ao.isAgg,bS.isAgg,Nat.reduceAdd,Nat.reduceLT,Nat.reduceSub,Nat.reduceMul,Nat.add_zero,Nat.zero_add,Int.toNat_natCast,Int.reduceToNat,Int.reduceAdd,Nat.reduceEqDiff,reduceIte,and_true,true_and,and_false,false_and,if_true,if_false,Bool.false_eq_true,Bool.true_eq_false,eq_self,Nat.sub_zero,Nat.lt_irrefl,Nat.sub_self,Nat.zero_mul,Nat.zero_lt_succ]<;>exact rfl)):p:=h
theorem ptp {p:Prop} (h:p:=by first | exact rfl | (simp only [l7,List.take_succ_cons,List.take_zero,List.take_nil,LV.put,uE,aS,aT,LV.au,cF,qL,aaD,ao.au,bS.au,ao.isAgg,bS.isAgg,ahM,axM,ayN,auR,Option.map_some,Nat.reduceAdd,Nat.reduceLT,Nat.reduceSub,Nat.reduceMul,Nat.add_zero,Nat.zero_add,Int.toNat_natCast,Int.reduceToNat,Int.reduceAdd,Nat.reduceEqDiff,reduceIte,and_true,true_and,and_false,false_and,if_true,if_false,Bool.false_eq_true,Bool.true_eq_false,eq_self,Nat.sub_zero,Nat.lt_irrefl,Nat.sub_self,Nat.zero_mul,Nat.zero_lt_succ]<;>exact rfl)):p:=h
section
variable {P:Program} {H:bK} {ρ:Operand->LV} {T E:TypeId} {p x i:Operand} {n sz:Nat} {ag:Bool} {fs:List LV} {r:LV} {k:IntKind} {m:Int} {b o j:Nat}
theorem aB.ixa [u:UN P T (.array n E)] [t:TI P E sz ag] (hx:ρ x=.agg fs) (hi:ρ i=.v (.int k m)) (h0:0<=m) (hr:fs[m.toNat]?=some r) (hp:r.pure=true) (hf:fs.map lay=List.replicate n (sz,ag)):aB P H ρ (.index T x i) r:=.yf hx u.h t.h hf hi h0 hr hp
theorem aB.ixe [u:UN P T (.array n E)] [t:TI P E sz ag] {s2:Nat} (hx:ρ x=.aA b s2 j o) (hi:ρ i=.v (.int k m)) (h0:0<=m) (hm:m<n):aB P H ρ (.indexAddr T x i) (.aA b s2 j (o+m.toNat*sz)):=.xz hx u.h t.h hi h0 hm
theorem aB.ixb [u:UN P T (.array n E)] [t:TI P E sz ag] (hx:ρ x=.bV (.agg fs)) (hi:ρ i=.v (.int k m)) (h0:0<=m) (hr:fs[m.toNat]?=some r) (hf:fs.map lay=List.replicate n (sz,ag)):aB P H ρ (.indexAddr T x i) (.bV r):=.yC hx u.h t.h hf hi h0 hr
theorem aB.vg {zs:List LV} {ps:Array (Nat × Operand)} [u:UN P T (.array n E)] [t:TI P E sz ag] [z:ZI P T (.agg zs)] (h:∀ z∈zs,lay z=(sz,ag)) (hp:∀ p∈ps.toList,∃ z,zs[p.1]?=some z/\lay (ρ p.2)=lay z/\ρ p.2≠.any/\∀ m,ρ p.2≠.a7 m) :
  aB P H ρ (.build T ps) (.agg (iD zs (ps.toList.map fun p=>(p.1,ρ p.2)))):=.xH u.h t.h h z.h hp
theorem aB.ax2 {o0 o1 o2:Operand} {a b c:Rat} [u:UN P T (.array 3 E)] [t:TI P E 3 true] [z:ZI P T (.agg [ae 0,ae 0,ae 0])] (h0:ρ o0=ae a) (h1:ρ o1=ae b) (h2:ρ o2=ae c) :
  aB P H ρ (.build T #[(0,o0),(1,o1),(2,o2)]) (.agg [ae a,ae b,ae c]):=by
 have:=aB.vg (H:=H) (ρ:=ρ) (ps:=#[(0,o0),(1,o1),(2,o2)]) (u:=u) (t:=t) (z:=z) (by simp [lay,ao.au,ao.isAgg]) (by
  intro p hp
  simp only [List.mem_cons,List.not_mem_nil,or_false] at hp
  rcases hp with rfl | rfl | rfl
  ·exact aeB
  ·exact⟨_,rfl,by rw [h1];simp [lay,ao.au,ao.isAgg],by rw [h1];exact LV.eF (ao.pure _),by rw [h1];exact LV.dZ (ao.pure _)⟩
  ·exact⟨_,rfl,by rw [h2];simp [lay,ao.au,ao.isAgg],by rw [h2];exact LV.eF (ao.pure _),by rw [h2];exact LV.dZ (ao.pure _)⟩)
 simpa only [iD,List.map,List.foldl,List.set,h0,h1,h2] using this
theorem aB.aB5 {o0 o1 o2 o3:Operand} {a b c d:Rat} [u:UN P T (.array 4 E)] [t:TI P E 3 true] [z:ZI P T (.agg [ae 0,ae 0,ae 0,ae 0])] (h0:ρ o0=ae a) (h1:ρ o1=ae b) (h2:ρ o2=ae c) (h3:ρ o3=ae d) :
  aB P H ρ (.build T #[(0,o0),(1,o1),(2,o2),(3,o3)]) (.agg [ae a,ae b,ae c,ae d]):=by
 have:=aB.vg (H:=H) (ρ:=ρ) (ps:=#[(0,o0),(1,o1),(2,o2),(3,o3)]) (u:=u) (t:=t) (z:=z) (by simp [lay,ao.au,ao.isAgg]) (by
  intro p hp
  simp only [List.mem_cons,List.not_mem_nil,or_false] at hp
  rcases hp with rfl | rfl | rfl | rfl
  ·exact aeB
  ·exact⟨_,rfl,by rw [h1];simp [lay,ao.au,ao.isAgg],by rw [h1];exact LV.eF (ao.pure _),by rw [h1];exact LV.dZ (ao.pure _)⟩
  ·exact⟨_,rfl,by rw [h2];simp [lay,ao.au,ao.isAgg],by rw [h2];exact LV.eF (ao.pure _),by rw [h2];exact LV.dZ (ao.pure _)⟩
  ·exact⟨_,rfl,by rw [h3];simp [lay,ao.au,ao.isAgg],by rw [h3];exact LV.eF (ao.pure _),by rw [h3];exact LV.dZ (ao.pure _)⟩)
 simpa only [iD,List.map,List.foldl,List.set,h0,h1,h2,h3] using this
theorem aB.auw {o0 o1:Operand} {a b:Rat} [u:UN P T (.array 2 E)] [t:TI P E 3 true] [z:ZI P T (.agg [ae 0,ae 0])] (h0:ρ o0=ae a) (h1:ρ o1=ae b):aB P H ρ (.build T #[(0,o0),(1,o1)]) (.agg [ae a,ae b]):=by
 have:=aB.vg (H:=H) (ρ:=ρ) (ps:=#[(0,o0),(1,o1)]) (u:=u) (t:=t) (z:=z) (by simp [lay,ao.au,ao.isAgg]) (by
  intro p hp
  simp only [List.mem_cons,List.not_mem_nil,or_false] at hp
  rcases hp with rfl | rfl
  ·exact aeB
  ·exact⟨_,rfl,by rw [h1];simp [lay,ao.au,ao.isAgg],by rw [h1];exact LV.eF (ao.pure _),by rw [h1];exact LV.dZ (ao.pure _)⟩)
 simpa only [iD,List.map,List.foldl,List.set,h0,h1] using this
theorem aB.aAW {o0 o1 o2:Operand} {a b c d e f:Rat} [u:UN P T (.array 3 E)] [t:TI P E 6 true] [z:ZI P T (.agg [.agg [ae 0,ae 0],.agg [ae 0,ae 0],.agg [ae 0,ae 0]])]
  (h0:ρ o0=.agg [ae a,ae b]) (h1:ρ o1=.agg [ae c,ae d]) (h2:ρ o2=.agg [ae e,ae f]):aB P H ρ (.build T #[(0,o0),(1,o1),(2,o2)]) (.agg [.agg [ae a,ae b],.agg [ae c,ae d],.agg [ae e,ae f]]):=by
 have:=aB.vg (H:=H) (ρ:=ρ) (ps:=#[(0,o0),(1,o1),(2,o2)]) (u:=u) (t:=t) (z:=z) (by simp [lay,LV.au,cF,ao.au,qL]) (by
  intro p hp
  simp only [List.mem_cons,List.not_mem_nil,or_false] at hp
  rcases hp with rfl | rfl | rfl
  ·exact⟨_,rfl,by rw [h0];simp [lay,LV.au,cF,ao.au,qL],by rw [h0];exact(fun h=>LV.noConfusion h),by rw [h0];exact(fun _ h=>LV.noConfusion h)⟩
  ·exact⟨_,rfl,by rw [h1];simp [lay,LV.au,cF,ao.au,qL],by rw [h1];exact(fun h=>LV.noConfusion h),by rw [h1];exact(fun _ h=>LV.noConfusion h)⟩
  ·exact⟨_,rfl,by rw [h2];simp [lay,LV.au,cF,ao.au,qL],by rw [h2];exact(fun h=>LV.noConfusion h),by rw [h2];exact(fun _ h=>LV.noConfusion h)⟩)
 simpa only [iD,List.map,List.foldl,List.set,h0,h1,h2] using this
theorem aB.ldp {vals:List LV} {y:LV} {mt:Bool} [t:TI P T n ag] (hp:ρ p=.aA b sz j o) (hb:H b=some ⟨sz,vals,mt⟩) (hi:vals[j]?=some y) (hy:y.au=sz) (hr:y.at o n ag=some r):aB P H ρ (.load T p) r:=.fu hp hb rfl hi hy hr t.h
theorem aB.qA {c:LV} [t:TI P T n ag] (hp:ρ p=.bV c) (hc:c.pure=true) (hs:c.au=n) (ha:c.isAgg=ag):aB P H ρ (.load T p) c:=.wC hp (by rw [hs,ha];exact t.h) hc
theorem fI.iP {L:St} {vals:List LV} {y y' v:LV} {dst:Option Tmp} [t:TI P T n ag] (hp:L.ev p=.aA b sz j o) (hb:L.heap b=some ⟨sz,vals,true⟩) (hi:vals[j]?=some y) (hx:L.ev x=v) (hy:y.au=sz) (hv:v.au=n) (hva:v.isAgg=ag) (lC:y.put o v=some y') (aQ:v≠.any/\∀ m,v≠.a7 m) :
  fI P L dst (.store T p x) ((L.bG b (some ⟨sz,vals.set j y',true⟩)).put dst .any):=.store hp hb rfl rfl hi hy (by rw [hx];exact lC) (by rw [hx,hv,hva];exact t.h) (by rw [hx];exact aQ)
end
theorem nx_ {z x:LV} {zs:List LV} {k:Nat} (h1:zs[k]?=some z) (h2:lay x=lay z) (h3:x≠.any/\∀ m,x≠.a7 m):∃ z,zs[k]?=some z/\lay x=lay z/\x≠.any/\∀ m,x≠.a7 m:=⟨z,h1,h2,h3⟩
theorem aeS {p:Prop} (h:p:=by(simp only [List.forall_mem_cons];repeat (first | exact(fun _ h=>by cases h) | refine⟨nx_ rfl cs kH,?_⟩))):p:=h
structure gS (q:Prop):Prop where
 h:q
theorem il {P:Program} {H:bK} {ρ:Operand->LV} {T:TypeId} {p:Operand} {x:LV} (h:aB P H ρ (.load T p) x:=by first | (apply aB.ldB;exact rfl) | exact .ato rfl rfl rfl TI.h | exact .axX rfl rfl rfl TI.h | (apply aB.ldE;exact rfl;exact rfl;exact om) | exact .az4 rfl rfl rfl TI.h | exact .av1 rfl rfl rfl TI.h | exact .au6 rfl rfl rfl TI.h | exact .asK rfl rfl rfl TI.h | exact .avF rfl rfl rfl TI.h | exact .fu rfl rfl rfl rfl rfl rfl TI.h | (apply aB.ldp;exact rfl;exact rfl;exact rfl;exact cs;exact atp) | (apply aB.qA;exact rfl;exact pu;exact cs;exact cs)):aB P H ρ (.load T p) x:=h
section
variable {P:Program} {H:bK} {ρ:Operand->LV} {T U:TypeId} {x y:Operand}
theorem aB.aI {a b:Int} (hx:ρ x=.v (.int .i64 a)) (hy:ρ y=.v (.int .i64 b)) (h1:-9223372036854775808<=a+b) (h2:a+b<=9223372036854775807):aB P H ρ (.binOp .add T x y U) (.v (.int .i64 (a+b))):=.bin hx hy (py h1 h2)
theorem aB.sI {a b:Int} (hx:ρ x=.v (.int .i64 a)) (hy:ρ y=.v (.int .i64 b)) (h1:-9223372036854775808<=a-b) (h2:a-b<=9223372036854775807):aB P H ρ (.binOp .sub T x y U) (.v (.int .i64 (a-b))):=.bin hx hy (xD h1 h2)
theorem aB.mI {a b:Int} (hx:ρ x=.v (.int .i64 a)) (hy:ρ y=.v (.int .i64 b)) (h1:-9223372036854775808<=a*b) (h2:a*b<=9223372036854775807):aB P H ρ (.binOp .mul T x y U) (.v (.int .i64 (a*b))):=.bin hx hy (afi h1 h2)
theorem aB.aU {a b:Nat} (hx:ρ x=.v (.int .u64 (a:Nat))) (hy:ρ y=.v (.int .u64 (b:Nat))) (h:a+b<18446744073709551616):aB P H ρ (.binOp .add T x y U) (.v (.int .u64 ((a+b:Nat):Int))):=.bin hx hy (aql h)
theorem aB.mU {a b:Nat} (hx:ρ x=.v (.int .u64 (a:Nat))) (hy:ρ y=.v (.int .u64 (b:Nat))) (h:a*b<18446744073709551616):aB P H ρ (.binOp .mul T x y U) (.v (.int .u64 ((a*b:Nat):Int))):=.bin hx hy (abL h)
theorem aB.sU {a b:Nat} (hx:ρ x=.v (.int .u64 (a:Nat))) (hy:ρ y=.v (.int .u64 (b:Nat))) (h:b<=a) (h1:a<18446744073709551616):aB P H ρ (.binOp .sub T x y U) (.v (.int .u64 ((a-b:Nat):Int))):=.bin hx hy (amf h h1)
theorem aB.qU {a b:Nat} (hx:ρ x=.v (.int .u64 (a:Nat))) (hy:ρ y=.v (.int .u64 (b:Nat))) (h:0<b) (h1:a<18446744073709551616):aB P H ρ (.binOp .quo T x y U) (.v (.int .u64 ((a/b:Nat):Int))):=.bin hx hy (aed h h1)
theorem aB.rU {a b:Nat} (hx:ρ x=.v (.int .u64 (a:Nat))) (hy:ρ y=.v (.int .u64 (b:Nat))) (h:0<b):aB P H ρ (.binOp .rem T x y U) (.v (.int .u64 ((a % b:Nat):Int))):=.bin hx hy (ajN h)
theorem aB.oU {a b:Nat} (hx:ρ x=.v (.int .u64 ((a*4294967296:Nat):Int))) (hy:ρ y=.v (.int .u64 (b:Nat))) (h:b<4294967296) (h1:a<4294967296):aB P H ρ (.binOp .or T x y U) (.v (.int .u64 ((a*4294967296+b:Nat):Int))):=.bin hx hy (orU h h1)
theorem aB.hl {a:Nat} {k:IntKind} (hx:ρ x=.v (.int .u64 (a:Nat))) (hy:ρ y=.v (.int k 32)) (h:a*4294967296<18446744073709551616):aB P H ρ (.binOp .shl T x y U) (.v (.int .u64 ((a*4294967296:Nat):Int))):=.sh hx hy (abQ h)
theorem aB.hr {a:Nat} {k:IntKind} (hx:ρ x=.v (.int .u64 (a:Nat))) (hy:ρ y=.v (.int k 32)):aB P H ρ (.binOp .shr T x y U) (.v (.int .u64 ((a/4294967296:Nat):Int))):=.sh hx hy aC2
theorem aB.atq {a:Nat} {k:IntKind} (hx:ρ x=.v (.int .u64 (a:Nat))) (hy:ρ y=.v (.int k 63)):aB P H ρ (.binOp .shr T x y U) (.v (.int .u64 ((a/9223372036854775808:Nat):Int))):=.sh hx hy as1
end
theorem biA {P:Program} {H:bK} {ρ:Operand->LV} {o:BinOp} {T U:TypeId} {p y:Operand} {x:LV} (h:aB P H ρ (.binOp o T p y U) x:=by first | (apply aB.cmp;exact rfl;exact rfl;exact rfl;exact rfl) | (apply aB.aI;exact rfl;exact rfl;exact om;exact om) | (apply aB.sI;exact rfl;exact rfl;exact om;exact om) | (apply aB.mI;exact rfl;exact rfl;exact om;exact om) | (apply aB.aU;exact rfl;exact rfl;exact om) | (apply aB.mU;exact rfl;exact rfl;exact om) | (apply aB.sU;exact rfl;exact rfl;exact om;exact om) | (apply aB.qU;exact rfl;exact rfl;exact om;exact om) | (apply aB.rU;exact rfl;exact rfl;exact om) | (apply aB.oU;exact rfl;exact rfl;exact om;exact om) | (apply aB.hl;exact rfl;exact rfl;exact om) | (apply aB.hr;exact rfl;exact rfl) | (apply aB.atq;exact rfl;exact rfl) | (apply aB.beq;exact rfl;exact rfl;exact UN.h) | (apply aB.bne;exact rfl;exact rfl;exact UN.h)):aB P H ρ (.binOp o T p y U) x:=h
theorem vc {P:Program} {H:bK} {ρ:Operand->LV} {b:Builtin} {xs:Array Operand} {as:Array TypeId} {x:LV} (h:aB P H ρ (.call ⟨.builtin b,xs,as⟩) x:=by first | exact .azR rfl rfl UN.h | exact .xb rfl rfl UN.h | exact .xR rfl rfl UN.h | exact .y5 rfl rfl UN.h | exact .adv rfl rfl UN.h | exact .xL rfl rfl UN.h | exact .min2 rfl rfl | exact .max2 rfl rfl):aB P H ρ (.call ⟨.builtin b,xs,as⟩) x:=h
theorem srA {P:Program} {L L':St} {dst:Option Tmp} {T:TypeId} {p x:Operand} (h:fI P L dst (.store T p x) L':=by first | exact .aCn rfl rfl rfl rfl TI.h | exact .ase rfl rfl rfl TI.h | exact .axT rfl rfl rfl TI.h | (apply fI.yQ;exact rfl;exact rfl;exact rfl;exact om) | exact .store rfl rfl rfl rfl rfl rfl rfl TI.h kH | (apply fI.iP;exact rfl;exact rfl;exact rfl;(first | exact(rfl:_=ae _) | exact(rfl:_=aS _) | exact(rfl:_=aT _) | exact(rfl:_=aD _) | exact(rfl:_=LV.agg _) | exact rfl);exact cs;exact cs;exact cs;exact ptp;exact kH)):fI P L dst (.store T p x) L':=h
theorem cvA {P:Program} {H:bK} {ρ:Operand->LV} {S D:TypeId} {p:Operand} {x:LV} (h:aB P H ρ (.convert S D p) x:=by first | exact .ayd UN.h UN.h rfl | (apply aB.aep;exact UN.h;exact UN.h;exact rfl;exact om) | (apply aB.cvI;exact UN.h;exact UN.h;exact rfl;exact om;exact om) | exact .conv UN.h UN.h rfl):aB P H ρ (.convert S D p) x:=h
theorem aiv {P:Program} {T:TypeId} {l:List (Nat × Bool)} {fs:List LV} (h:jV P T l) (e:fs.map lay=l):jV P T (fs.map lay):=e ▸ h
theorem akp {P:Program} {H:bK} {ρ:Operand->LV} {T:TypeId} {p i:Operand} {x:LV} (h:aB P H ρ (.index T p i) x:=by(apply aB.ixa;exact rfl;exact rfl;exact om;exact rfl;exact pu;exact cs)):aB P H ρ (.index T p i) x:=h
theorem lZ {P:Program} {H:bK} {ρ:Operand->LV} {T:TypeId} {p:Operand} {k:Nat} {x:LV} (h:aB P H ρ (.fieldAddr T p k) x:=by first | exact .yj rfl SI.h ai | exact .wv rfl SI.h rfl | (refine .wv rfl (aiv SI.h cs) rfl)):aB P H ρ (.fieldAddr T p k) x:=h
theorem tL {P:Program} {H:bK} {ρ:Operand->LV} {T:TypeId} {p i:Operand} {x:LV} (h:aB P H ρ (.indexAddr T p i) x:=by first | (apply aB.ixL;exact rfl;exact rfl;exact om;exact om) | (apply aB.ixR;exact rfl;exact rfl;exact om;exact om) | (apply aB.ixe;exact rfl;exact rfl;exact om;exact om) | (apply aB.ixb;exact rfl;exact rfl;exact om;exact rfl;exact cs)):aB P H ρ (.indexAddr T p i) x:=h
section
variable {P:Program} {dr:Bool} {ops:Array Oper} {rest:List Oper} {L L':St} {K:St->Prop} {dst:Option Tmp} {d:Nat} {ty:TypeId} {pos:String} {af:Array Edge} {j:Nat} {w:Bool} {r:LV} {bk:a8}
theorem aBB {T:TypeId} {p:Operand} (h:aB P L.heap L.ev (.load T p) r) (kk:opsL P dr ops rest (L.put dst r) K):opsL P dr ops (⟨dst,(.load T p),ty,pos,af,none⟩ :: rest) L K:=ak rfl h kk
theorem awZ {T:TypeId} {p:Operand} (hg:dE ops L ⟨dst,(.load T p),ty,pos,af,some (j,w)⟩ true) (h:aB P L.heap L.ev (.load T p) r) (kk:opsL P dr ops rest (L.put dst r) K):opsL P dr ops (⟨dst,(.load T p),ty,pos,af,some (j,w)⟩ :: rest) L K:=ak hg h kk
theorem asL {o:BinOp} {T U:TypeId} {p y:Operand} (h:aB P L.heap L.ev (.binOp o T p y U) r) (kk:opsL P dr ops rest (L.put dst r) K):opsL P dr ops (⟨dst,(.binOp o T p y U),ty,pos,af,none⟩ :: rest) L K:=ak rfl h kk
theorem as6 {o:BinOp} {T U:TypeId} {p y:Operand} (hg:dE ops L ⟨dst,(.binOp o T p y U),ty,pos,af,some (j,w)⟩ true) (h:aB P L.heap L.ev (.binOp o T p y U) r) (kk:opsL P dr ops rest (L.put dst r) K):opsL P dr ops (⟨dst,(.binOp o T p y U),ty,pos,af,some (j,w)⟩ :: rest) L K:=ak hg h kk
theorem aBk {b:Builtin} {xs:Array Operand} {as:Array TypeId} (h:aB P L.heap L.ev (.call ⟨.builtin b,xs,as⟩) r) (kk:opsL P dr ops rest (L.put dst r) K):opsL P dr ops (⟨dst,(.call ⟨.builtin b,xs,as⟩),ty,pos,af,none⟩ :: rest) L K:=ak rfl h kk
theorem aBD {b:Builtin} {xs:Array Operand} {as:Array TypeId} (hg:dE ops L ⟨dst,(.call ⟨.builtin b,xs,as⟩),ty,pos,af,some (j,w)⟩ true) (h:aB P L.heap L.ev (.call ⟨.builtin b,xs,as⟩) r) (kk:opsL P dr ops rest (L.put dst r) K):opsL P dr ops (⟨dst,(.call ⟨.builtin b,xs,as⟩),ty,pos,af,some (j,w)⟩ :: rest) L K:=ak hg h kk
theorem aAF {T:TypeId} {p:Operand} {k:Nat} (h:aB P L.heap L.ev (.fieldAddr T p k) r) (kk:opsL P dr ops rest (L.put dst r) K):opsL P dr ops (⟨dst,(.fieldAddr T p k),ty,pos,af,none⟩ :: rest) L K:=ak rfl h kk
theorem aBZ {T:TypeId} {p:Operand} {k:Nat} (hg:dE ops L ⟨dst,(.fieldAddr T p k),ty,pos,af,some (j,w)⟩ true) (h:aB P L.heap L.ev (.fieldAddr T p k) r) (kk:opsL P dr ops rest (L.put dst r) K):opsL P dr ops (⟨dst,(.fieldAddr T p k),ty,pos,af,some (j,w)⟩ :: rest) L K:=ak hg h kk
theorem auc {T:TypeId} {p y:Operand} (h:aB P L.heap L.ev (.index T p y) r) (kk:opsL P dr ops rest (L.put dst r) K):opsL P dr ops (⟨dst,(.index T p y),ty,pos,af,none⟩ :: rest) L K:=ak rfl h kk
theorem ay2 {T:TypeId} {p y:Operand} (hg:dE ops L ⟨dst,(.index T p y),ty,pos,af,some (j,w)⟩ true) (h:aB P L.heap L.ev (.index T p y) r) (kk:opsL P dr ops rest (L.put dst r) K):opsL P dr ops (⟨dst,(.index T p y),ty,pos,af,some (j,w)⟩ :: rest) L K:=ak hg h kk
theorem auI {T:TypeId} {p y:Operand} (h:aB P L.heap L.ev (.indexAddr T p y) r) (kk:opsL P dr ops rest (L.put dst r) K):opsL P dr ops (⟨dst,(.indexAddr T p y),ty,pos,af,none⟩ :: rest) L K:=ak rfl h kk
theorem awP {T:TypeId} {p y:Operand} (hg:dE ops L ⟨dst,(.indexAddr T p y),ty,pos,af,some (j,w)⟩ true) (h:aB P L.heap L.ev (.indexAddr T p y) r) (kk:opsL P dr ops rest (L.put dst r) K):opsL P dr ops (⟨dst,(.indexAddr T p y),ty,pos,af,some (j,w)⟩ :: rest) L K:=ak hg h kk
theorem av6 {p:Operand} {k:Nat} (h:aB P L.heap L.ev (.extract p k) r) (kk:opsL P dr ops rest (L.put dst r) K):opsL P dr ops (⟨dst,(.extract p k),ty,pos,af,none⟩ :: rest) L K:=ak rfl h kk
theorem atu {p:Operand} {k:Nat} (hg:dE ops L ⟨dst,(.extract p k),ty,pos,af,some (j,w)⟩ true) (h:aB P L.heap L.ev (.extract p k) r) (kk:opsL P dr ops rest (L.put dst r) K):opsL P dr ops (⟨dst,(.extract p k),ty,pos,af,some (j,w)⟩ :: rest) L K:=ak hg h kk
theorem ayQ {p y z:Operand} (h:aB P L.heap L.ev (.pick p y z) r) (kk:opsL P dr ops rest (L.put dst r) K):opsL P dr ops (⟨dst,(.pick p y z),ty,pos,af,none⟩ :: rest) L K:=ak rfl h kk
theorem awq {p y z:Operand} (hg:dE ops L ⟨dst,(.pick p y z),ty,pos,af,some (j,w)⟩ true) (h:aB P L.heap L.ev (.pick p y z) r) (kk:opsL P dr ops rest (L.put dst r) K):opsL P dr ops (⟨dst,(.pick p y z),ty,pos,af,some (j,w)⟩ :: rest) L K:=ak hg h kk
theorem asR {T U:TypeId} {p:Operand} (h:aB P L.heap L.ev (.convert T U p) r) (kk:opsL P dr ops rest (L.put dst r) K):opsL P dr ops (⟨dst,(.convert T U p),ty,pos,af,none⟩ :: rest) L K:=ak rfl h kk
theorem ayJ {T U:TypeId} {p:Operand} (hg:dE ops L ⟨dst,(.convert T U p),ty,pos,af,some (j,w)⟩ true) (h:aB P L.heap L.ev (.convert T U p) r) (kk:opsL P dr ops rest (L.put dst r) K):opsL P dr ops (⟨dst,(.convert T U p),ty,pos,af,some (j,w)⟩ :: rest) L K:=ak hg h kk
theorem awI {u:UnOp} {T:TypeId} {p:Operand} (h:aB P L.heap L.ev (.unOp u T p) r) (kk:opsL P dr ops rest (L.put dst r) K):opsL P dr ops (⟨dst,(.unOp u T p),ty,pos,af,none⟩ :: rest) L K:=ak rfl h kk
theorem aAv {u:UnOp} {T:TypeId} {p:Operand} (hg:dE ops L ⟨dst,(.unOp u T p),ty,pos,af,some (j,w)⟩ true) (h:aB P L.heap L.ev (.unOp u T p) r) (kk:opsL P dr ops rest (L.put dst r) K):opsL P dr ops (⟨dst,(.unOp u T p),ty,pos,af,some (j,w)⟩ :: rest) L K:=ak hg h kk
theorem azf {T:TypeId} {p:Operand} {k:Nat} (h:aB P L.heap L.ev (.field T p k) r) (kk:opsL P dr ops rest (L.put dst r) K):opsL P dr ops (⟨dst,(.field T p k),ty,pos,af,none⟩ :: rest) L K:=ak rfl h kk
theorem ayU {T:TypeId} {p:Operand} {k:Nat} (hg:dE ops L ⟨dst,(.field T p k),ty,pos,af,some (j,w)⟩ true) (h:aB P L.heap L.ev (.field T p k) r) (kk:opsL P dr ops rest (L.put dst r) K):opsL P dr ops (⟨dst,(.field T p k),ty,pos,af,some (j,w)⟩ :: rest) L K:=ak hg h kk
theorem aBW {p:Operand} (h:aB P L.heap L.ev (.nilCheck p) r) (kk:opsL P dr ops rest (L.put dst r) K):opsL P dr ops (⟨dst,(.nilCheck p),ty,pos,af,none⟩ :: rest) L K:=ak rfl h kk
theorem aBq {p:Operand} (hg:dE ops L ⟨dst,(.nilCheck p),ty,pos,af,some (j,w)⟩ true) (h:aB P L.heap L.ev (.nilCheck p) r) (kk:opsL P dr ops rest (L.put dst r) K):opsL P dr ops (⟨dst,(.nilCheck p),ty,pos,af,some (j,w)⟩ :: rest) L K:=ak hg h kk
theorem pH {T:TypeId} {ps:Array (Nat × Operand)} (h:aB P L.heap L.ev (.build T ps) r) (kk:opsL P dr ops rest (L.put dst r) K):opsL P dr ops (⟨dst,(.build T ps),ty,pos,af,none⟩ :: rest) L K:=ak rfl h kk
theorem axe {T:TypeId} {ps:Array (Nat × Operand)} (hg:dE ops L ⟨dst,(.build T ps),ty,pos,af,some (j,w)⟩ true) (h:aB P L.heap L.ev (.build T ps) r) (kk:opsL P dr ops rest (L.put dst r) K):opsL P dr ops (⟨dst,(.build T ps),ty,pos,af,some (j,w)⟩ :: rest) L K:=ak hg h kk
theorem atg {p:Operand} (hg:dE ops L ⟨dst,(.move p),ty,pos,af,some (j,w)⟩ true) (h:aB P L.heap L.ev (.move p) r) (kk:opsL P dr ops rest (L.put dst r) K):opsL P dr ops (⟨dst,(.move p),ty,pos,af,some (j,w)⟩ :: rest) L K:=ak hg h kk
theorem asT {p:Operand} (hg:dE ops L ⟨dst,(.assign p),ty,pos,af,some (j,w)⟩ true) (h:aB P L.heap L.ev (.assign p) r) (kk:opsL P dr ops rest (L.put dst r) K):opsL P dr ops (⟨dst,(.assign p),ty,pos,af,some (j,w)⟩ :: rest) L K:=ak hg h kk
theorem av2 {T:TypeId} {p:Operand} (hd:L.heap d=none) (h:c9 P L.ev d (.box T p) r bk) (kk:opsL P dr ops rest ((L.bG d (some bk)).put (some d) r) K):opsL P dr ops (⟨some d,(.box T p),ty,pos,af,none⟩ :: rest) L K:=eI rfl hd h kk
theorem aBe {T:TypeId} {p:Operand} (hg:dE ops L ⟨some d,(.box T p),ty,pos,af,some (j,w)⟩ true) (hd:L.heap d=none) (h:c9 P L.ev d (.box T p) r bk) (kk:opsL P dr ops rest ((L.bG d (some bk)).put (some d) r) K):opsL P dr ops (⟨some d,(.box T p),ty,pos,af,some (j,w)⟩ :: rest) L K:=eI hg hd h kk
theorem auW {T:TypeId} (hd:L.heap d=none) (h:c9 P L.ev d (.alloc T) r bk) (kk:opsL P dr ops rest ((L.bG d (some bk)).put (some d) r) K):opsL P dr ops (⟨some d,(.alloc T),ty,pos,af,none⟩ :: rest) L K:=eI rfl hd h kk
theorem aza {T:TypeId} (hg:dE ops L ⟨some d,(.alloc T),ty,pos,af,some (j,w)⟩ true) (hd:L.heap d=none) (h:c9 P L.ev d (.alloc T) r bk) (kk:opsL P dr ops rest ((L.bG d (some bk)).put (some d) r) K):opsL P dr ops (⟨some d,(.alloc T),ty,pos,af,some (j,w)⟩ :: rest) L K:=eI hg hd h kk
theorem azu {T:TypeId} {n:Nat} {ps:Array (Nat × Operand)} (hd:L.heap d=none) (h:c9 P L.ev d (.buildSlice T n ps) r bk) (kk:opsL P dr ops rest ((L.bG d (some bk)).put (some d) r) K):opsL P dr ops (⟨some d,(.buildSlice T n ps),ty,pos,af,none⟩ :: rest) L K:=eI rfl hd h kk
theorem asG {T:TypeId} {n:Nat} {ps:Array (Nat × Operand)} (hg:dE ops L ⟨some d,(.buildSlice T n ps),ty,pos,af,some (j,w)⟩ true) (hd:L.heap d=none) (h:c9 P L.ev d (.buildSlice T n ps) r bk) (kk:opsL P dr ops rest ((L.bG d (some bk)).put (some d) r) K):opsL P dr ops (⟨some d,(.buildSlice T n ps),ty,pos,af,some (j,w)⟩ :: rest) L K:=eI hg hd h kk
theorem axO {T:TypeId} {p y:Operand} (h:fI P L dst (.store T p y) L') (kk:opsL P dr ops rest L' K):opsL P dr ops (⟨dst,.store T p y,ty,pos,af,none⟩ :: rest) L K:=bI rfl h kk
theorem aCp {T:TypeId} {p y:Operand} (hg:dE ops L ⟨dst,.store T p y,ty,pos,af,some (j,w)⟩ true) (h:fI P L dst (.store T p y) L') (kk:opsL P dr ops rest L' K):opsL P dr ops (⟨dst,.store T p y,ty,pos,af,some (j,w)⟩ :: rest) L K:=bI hg h kk
theorem awb {op:Op} (hg:dE ops L ⟨dst,op,ty,pos,af,some (j,w)⟩ false) (kk:opsL P dr ops rest (L.put dst (.a7 [])) K):opsL P dr ops (⟨dst,op,ty,pos,af,some (j,w)⟩ :: rest) L K:=vA hg kk
end
theorem nm {p:Prop} (h:p:=by first | exact a6 (v:=true) rfl rfl sa rfl | exact a6 (v:=false) rfl rfl sa rfl):p:=h
theorem zGf {p:Prop} (h:p:=by first | exact a6 (v:=true) rfl rfl sa rfl | exact a6 (v:=false) rfl rfl sa rfl | exact auF rfl rfl):p:=h
theorem ia {p q:Prop} (k:q) (h:gS q->p:=by intro kk;first | (apply awd;exact kk.h) | (apply aud;exact kk.h) | (apply mv;exact kk.h) | (apply asg;exact kk.h) | (apply qn;exact nf;exact kk.h) | (apply atM;exact kk.h) | (apply aBB;exact il;exact kk.h) | (apply asL;exact biA;exact kk.h) | (apply aBk;exact vc;exact kk.h) | (apply aAF;exact lZ;exact kk.h) | (apply auI;exact tL;exact kk.h) | (apply auc;exact akp;exact kk.h) | (apply av6;exact .extract rfl rfl nt0;exact kk.h) | (apply axO;exact srA;exact kk.h) | (apply av2;exact rfl;(first | (apply c9.vS;exact rfl) | exact .box kH);exact kk.h) | (apply auW;exact rfl;(first | exact .alE | exact .alloc ZI.h);exact kk.h) | (apply ayQ;(first | exact .mM rfl sa | exact .oO rfl sa);exact kk.h) | (apply asR;exact cvA;exact kk.h) | (apply awI;(first | exact .not rfl | exact .neg rfl);exact kk.h) | (apply azf;(first | exact .field rfl SI.h rfl rfl | exact .field rfl (aiv SI.h cs) rfl pu);exact kk.h) | (apply azu;exact rfl;(first | (apply c9.l1;exact rfl;decide;decide) | exact .l0 | (apply c9.l2;exact rfl;exact rfl;decide;decide) | (apply c9.l3;exact rfl;exact rfl;exact rfl;decide;decide) | (apply c9.l4;exact rfl;exact rfl;exact rfl;exact rfl;decide;decide));exact kk.h) | (apply pH;(first | exact .ax2 rfl rfl rfl | exact .aB5 rfl rfl rfl rfl | exact .auw rfl rfl | exact .aAW rfl rfl rfl | exact .akK SI.h ZI.h rfl rfl | exact .bd rfl nes | exact .bd cs aeS | exact .vg laE aeS);exact kk.h) | (apply aBW;(first | exact .acn rfl | exact .acU rfl);exact kk.h) | (apply avm;exact kk.h) | (apply avW;exact kk.h) | (apply aAp;exact kk.h) | (apply awk;exact kk.h) | (apply asU;exact kk.h) | (apply bY;exact rfl;exact sa;exact kk.h) | (apply eE;exact rfl;exact sa;exact kk.h) | (apply awR;exact kk.h) | (apply aBm;exact kk.h) | (apply aCJ;exact kk.h) | (apply axV;exact kk.h) | (apply awW;decide;exact kk.h) | (apply awb;exact zGf;exact kk.h) | (apply atg;exact nm;(exact .move _);exact kk.h) | (apply awZ;exact nm;(exact il);exact kk.h) | (apply as6;exact nm;(exact biA);exact kk.h) | (apply aBD;exact nm;(exact vc);exact kk.h) | (apply aBZ;exact nm;(exact lZ);exact kk.h) | (apply awP;exact nm;(exact tL);exact kk.h) | (apply ay2;exact nm;(exact akp);exact kk.h) | (apply atu;exact nm;(exact .extract rfl rfl nt0);exact kk.h) | (apply aCp;exact nm;exact srA;exact kk.h) | (apply asT;exact nm;(exact .assign _);exact kk.h) | (apply aBe;exact nm;exact rfl;(first | (apply c9.vS;exact rfl) | exact .box kH);exact kk.h) | (apply aza;exact nm;exact rfl;(first | exact .alE | exact .alloc ZI.h);exact kk.h) | (apply awq;exact nm;(first | exact .mM rfl sa | exact .oO rfl sa);exact kk.h) | (apply ayJ;exact nm;(exact cvA);exact kk.h) | (apply aAv;exact nm;(first | exact .not rfl | exact .neg rfl);exact kk.h) | (apply ayU;exact nm;(first | exact .field rfl SI.h rfl rfl | exact .field rfl (aiv SI.h cs) rfl pu);exact kk.h) | (apply asG;exact nm;exact rfl;(first | (apply c9.l1;exact rfl;decide;decide) | exact .l0 | (apply c9.l2;exact rfl;exact rfl;decide;decide) | (apply c9.l3;exact rfl;exact rfl;exact rfl;decide;decide) | (apply c9.l4;exact rfl;exact rfl;exact rfl;exact rfl;decide;decide));exact kk.h) | (apply axe;exact nm;(first | exact .akK SI.h ZI.h rfl rfl | exact .bd rfl nes | exact .bd cs aeS | exact .vg laE aeS);exact kk.h) | (apply aBq;exact nm;(first | exact .acn rfl | exact .acU rfl);exact kk.h)):p:=h ⟨k⟩
theorem ar {p q:Prop} (k:q) (h:gS q->p:=by intro hq;(iterate 1 refine ia ?_);exact hq.h):p:=h ⟨k⟩
theorem aL {p q:Prop} (k:q) (h:gS q->p:=by intro hq;(iterate 2 refine ia ?_);exact hq.h):p:=h ⟨k⟩
theorem aJ {p q:Prop} (k:q) (h:gS q->p:=by intro hq;(iterate 3 refine ia ?_);exact hq.h):p:=h ⟨k⟩
theorem ax {p q:Prop} (k:q) (h:gS q->p:=by intro hq;(iterate 4 refine ia ?_);exact hq.h):p:=h ⟨k⟩
theorem aZ {p q:Prop} (k:q) (h:gS q->p:=by intro hq;(iterate 5 refine ia ?_);exact hq.h):p:=h ⟨k⟩
theorem az {p q:Prop} (k:q) (h:gS q->p:=by intro hq;(iterate 6 refine ia ?_);exact hq.h):p:=h ⟨k⟩
theorem aR {p q:Prop} (k:q) (h:gS q->p:=by intro hq;(iterate 7 refine ia ?_);exact hq.h):p:=h ⟨k⟩
theorem bf {p q:Prop} (k:q) (h:gS q->p:=by intro hq;(iterate 8 refine ia ?_);exact hq.h):p:=h ⟨k⟩
theorem bq {p q:Prop} (k:q) (h:gS q->p:=by intro hq;(iterate 9 refine ia ?_);exact hq.h):p:=h ⟨k⟩
theorem bB {p q:Prop} (k:q) (h:gS q->p:=by intro hq;(iterate 10 refine ia ?_);exact hq.h):p:=h ⟨k⟩
theorem bo {p q:Prop} (k:q) (h:gS q->p:=by intro hq;(iterate 11 refine ia ?_);exact hq.h):p:=h ⟨k⟩
theorem bu {p q:Prop} (k:q) (h:gS q->p:=by intro hq;(iterate 12 refine ia ?_);exact hq.h):p:=h ⟨k⟩
theorem dp {p q:Prop} (k:q) (h:gS q->p:=by intro hq;(iterate 13 refine ia ?_);exact hq.h):p:=h ⟨k⟩
theorem dj {p q:Prop} (k:q) (h:gS q->p:=by intro hq;(iterate 14 refine ia ?_);exact hq.h):p:=h ⟨k⟩
theorem gy {p q:Prop} (k:q) (h:gS q->p:=by intro hq;(iterate 15 refine ia ?_);exact hq.h):p:=h ⟨k⟩
theorem mH {p q:Prop} (k:q) (h:gS q->p:=by intro hq;(iterate 16 refine ia ?_);exact hq.h):p:=h ⟨k⟩
theorem im {p q:Prop} (k:q) (h:gS q->p:=by intro hq;(iterate 17 refine ia ?_);exact hq.h):p:=h ⟨k⟩
theorem mQ {p q:Prop} (k:q) (h:gS q->p:=by intro hq;(iterate 18 refine ia ?_);exact hq.h):p:=h ⟨k⟩
theorem nh {p q:Prop} (k:q) (h:gS q->p:=by intro hq;(iterate 19 refine ia ?_);exact hq.h):p:=h ⟨k⟩
theorem nj {p q:Prop} (k:q) (h:gS q->p:=by intro hq;(iterate 20 refine ia ?_);exact hq.h):p:=h ⟨k⟩
theorem xT {p q:Prop} (k:q) (h:gS q->p:=by intro hq;(iterate 21 refine ia ?_);exact hq.h):p:=h ⟨k⟩
theorem agJ {p q:Prop} (k:q) (h:gS q->p:=by intro hq;(iterate 22 refine ia ?_);exact hq.h):p:=h ⟨k⟩
theorem yu {p q:Prop} (k:q) (h:gS q->p:=by intro hq;(iterate 23 refine ia ?_);exact hq.h):p:=h ⟨k⟩
theorem yl {p q:Prop} (k:q) (h:gS q->p:=by intro hq;(iterate 24 refine ia ?_);exact hq.h):p:=h ⟨k⟩
theorem tk {p q:Prop} (k:q) (h:gS q->p:=by intro hq;(iterate 25 refine ia ?_);exact hq.h):p:=h ⟨k⟩
theorem asZ {p q:Prop} (k:q) (h:gS q->p:=by intro hq;(iterate 26 refine ia ?_);exact hq.h):p:=h ⟨k⟩
theorem aiA {p q:Prop} (k:q) (h:gS q->p:=by intro hq;(iterate 27 refine ia ?_);exact hq.h):p:=h ⟨k⟩
theorem ahZ {p q:Prop} (k:q) (h:gS q->p:=by intro hq;(iterate 28 refine ia ?_);exact hq.h):p:=h ⟨k⟩
theorem anh {p q:Prop} (k:q) (h:gS q->p:=by intro hq;(iterate 31 refine ia ?_);exact hq.h):p:=h ⟨k⟩
theorem aCV {p q:Prop} (k:q) (h:gS q->p:=by intro hq;(iterate 33 refine ia ?_);exact hq.h):p:=h ⟨k⟩
theorem akd {p q:Prop} (k:q) (h:gS q->p:=by intro hq;(iterate 34 refine ia ?_);exact hq.h):p:=h ⟨k⟩
theorem at9 {p q:Prop} (k:q) (h:gS q->p:=by intro hq;(iterate 49 refine ia ?_);exact hq.h):p:=h ⟨k⟩
theorem azS {p q:Prop} (k:q) (h:gS q->p:=by intro hq;(iterate 54 refine ia ?_);exact hq.h):p:=h ⟨k⟩
theorem as8 {p q:Prop} (k:q) (h:gS q->p:=by intro hq;(iterate 57 refine ia ?_);exact hq.h):p:=h ⟨k⟩
end Go.Lg
end
