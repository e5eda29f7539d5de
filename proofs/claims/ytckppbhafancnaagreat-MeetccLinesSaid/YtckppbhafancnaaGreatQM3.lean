/- Texts LgY, LgR, LgG of this proof, joined. -/
import Derived.Test.YtckppbhafancnaaGreatQM2
import Derived.Laws.Cover3
set_option linter.unusedVariables false
set_option linter.unusedSimpArgs false
section
set_option linter.unusedVariables false
set_option linter.unusedSimpArgs false
namespace Go.Lg
def val:List Nat→Nat
 | []=>0
 | x :: xs=>x+4294967296*val xs
def fA (l:List Nat):Prop:=∀ x∈l,x<4294967296
def aAU:Nat→Nat→List Nat
 | 0,_=>[]
 | k+1,n=>if n=0 then [] else n % 4294967296 :: aAU k (n/4294967296)
def aZ (n:Nat):List Nat:=aAU n n
theorem pB:∀ k,aAU k 0=[]
 | 0=>rfl
 | k+1=>by simp [aAU]
theorem x7:∀ (k j n:Nat),n≤k→n≤j→aAU k n=aAU j n
 | 0,j,n,h,_=>by
   have:n=0:=by omega
   subst this;rw [pB,pB]
 | k+1,0,n,_,h=>by
   have:n=0:=by omega
   subst this;rw [pB,pB]
 | k+1,j+1,n,h1,h2=>by
   simp only [aAU]
   split
   ·rfl
   ·rw [x7 k j (n/4294967296) (by omega) (by omega)]
theorem hY:aZ 0=[]:=rfl
theorem lZ {n:Nat} (h:0<n):aZ n=n % 4294967296 :: aZ (n/4294967296):=by
 unfold aZ
 obtain⟨k,rfl⟩:∃ k,n=k+1:=⟨n-1,by omega⟩
 rw [aAU,if_neg (by omega),x7 k ((k+1)/4294967296) _ (by omega) (Nat.le_refl _)]
theorem aX (n:Nat):val (aZ n)=n:=by
 induction n using Nat.strongRecOn with
 | _ n ih =>
  by_cases h:n=0
  ·subst h;rfl
  ·rw [lZ (by omega),val,ih (n/4294967296) (by omega)];omega
theorem aW (n:Nat):fA (aZ n):=by
 induction n using Nat.strongRecOn with
 | _ n ih =>
  by_cases h:n=0
  ·subst h;intro x hx;cases hx
  ·rw [lZ (by omega)]
   intro x hx
   rcases List.mem_cons.1 hx with rfl | hx
   ·omega
   ·exact ih _ (by omega) x hx
def Can (l:List Nat):Prop:=∀ h:l≠[],l.getLast h≠0
theorem rD (n:Nat):Can (aZ n):=by
 induction n using Nat.strongRecOn with
 | _ n ih =>
  by_cases h:n=0
  ·subst h;intro h;exact absurd rfl h
  ·rw [lZ (by omega)]
   intro hne
   by_cases h2:n/4294967296=0
   ·have e:aZ (n/4294967296)=[]:=by rw [h2];rfl
    simp only [e,List.getLast_singleton];omega
   ·have hne':aZ (n/4294967296)≠[]:=by rw [lZ (by omega)];simp
    rw [List.getLast_cons hne']
    exact ih _ (by omega) hne'
theorem aA8 {x:Nat} {xs:List Nat} (h:Can (x :: xs)):Can xs:=fun hne=>by
 have:=h (List.cons_ne_nil _ _)
 rwa [List.getLast_cons hne] at this
theorem aCH:∀ {l:List Nat},Can l→l≠[]→0<val l
 | [],_,h=>absurd rfl h
 | [x],h,_=>by have:=h (by simp);simp at this;simp [val];omega
 | x :: y :: l,h,_=>by
   have:=aCH (aA8 h) (by simp)
   simp only [val] at this ⊢;omega
theorem aDx:∀ {l:List Nat},fA l→Can l→aZ (val l)=l
 | [],_,_=>rfl
 | x :: xs,h1,h2=>by
   have hp:=aCH h2 (by simp)
   have hx:=h1 x (by simp)
   have ih:=aDx (l:=xs) (fun y hy=>h1 y (by simp [hy])) (aA8 h2)
   rw [lZ hp]
   have e1:val (x :: xs) % 4294967296=x:=by simp only [val];omega
   have e2:val (x :: xs)/4294967296=val xs:=by simp only [val];omega
   rw [e1,e2,ih]
theorem qH:∀ {l:List Nat},fA l→val l<4294967296 ^ l.length
 | [],_=>by simp [val]
 | x :: xs,h=>by
   have ih:=qH (l:=xs) (fun y hy=>h y (by simp [hy]))
   have hx:=h x (by simp)
   simp only [val,List.length_cons,Nat.pow_succ]
   have:val xs+1≤4294967296 ^ xs.length:=ih
   have:=Nat.mul_le_mul_right 4294967296 this
   omega
theorem lR:∀ (l m:List Nat),val (l++m)=val l+4294967296 ^ l.length*val m
 | [],m=>by simp [val]
 | x :: xs,m=>by
   simp only [List.cons_append,val,lR xs m,List.length_cons,Nat.pow_succ]
   rw [Nat.mul_add,←Nat.mul_assoc,Nat.mul_comm 4294967296 (4294967296 ^ xs.length)];omega
theorem oQ:∀ k,val (List.replicate k 0)=0
 | 0=>rfl
 | k+1=>by simp [List.replicate_succ,val,oQ k]
theorem eO {n k:Nat} (h:n<4294967296 ^ k):(aZ n).length≤k:=by
 induction k generalizing n with
 | zero =>
      have:n=0:=by simpa using h
      subst this;simp [hY]
 | succ k ih =>
  by_cases h0:n=0
  ·subst h0;simp [hY]
  ·rw [lZ (by omega),List.length_cons]
   have:=ih (n:=n/4294967296) (by rw [Nat.div_lt_iff_lt_mul (by omega)];rwa [←Nat.pow_succ])
   omega
theorem dO {n k:Nat} (h:(aZ n).length≤k):n<4294967296 ^ k:=by
 have h1:=qH (aW n)
 rw [aX] at h1
 exact Nat.lt_of_lt_of_le h1 (Nat.pow_le_pow_right (by omega) h)
theorem lU {n k:Nat}:(aZ n).length≤k↔n<4294967296 ^ k:=⟨dO,eO⟩
theorem eE {n:Nat}:aZ n=[]↔n=0:=by
 constructor
 ·intro h;have:=aX n;rw [h] at this;exact this.symm
 ·rintro rfl;rfl
theorem uR {l m:List Nat} (h1:fA l) (h2:fA m):fA (l++m):=fun x hx=>by
 rcases List.mem_append.1 hx with h | h
 ·exact h1 x h
 ·exact h2 x h
theorem iB {l:List Nat} (h:fA l) (k:Nat):fA (l.take k):=fun x hx=>h x (List.mem_of_mem_take hx)
theorem aFO {l:List Nat} (h:fA l) (k:Nat):fA (l.drop k):=fun x hx=>h x (List.mem_of_mem_drop hx)
theorem fW (k:Nat):fA (List.replicate k 0):=fun x hx=>by rw [(List.mem_replicate.1 hx).2];omega
theorem aFd {l:List Nat} (h:fA l) (k:Nat):l.getD k 0<4294967296:=by
 rw [List.getD_eq_getElem?_getD]
 cases hq:l[k]? with
 | none=>simp
 | some x=>simpa using h x (List.mem_of_getElem? hq)
theorem pV {l:List Nat} {k:Nat} (h:k<l.length):val (l.take (k+1))=val (l.take k)+4294967296 ^ k*l.getD k 0:=by
 rw [List.take_succ_eq_append_getElem h,lR,List.length_take,Nat.min_eq_left (by omega),List.getD_eq_getElem?_getD,List.getElem?_eq_getElem h]
 simp [val]
def fJ:Nat→List Nat→Nat
 | 0,_=>0
 | n+1,l=>if l.getD n 0=0 then fJ n l else n+1
theorem vE:∀ (n:Nat) (l:List Nat),fJ n l≤n
 | 0,_=>by simp [fJ]
 | n+1,l=>by simp only [fJ];split;have:=vE n l;omega;omega
theorem nI:∀ (n:Nat) (l:List Nat),n≤l.length→Can (l.take (fJ n l))∧val (l.take (fJ n l))=val (l.take n)
 | 0,l,_=>by simp [fJ,Can]
 | n+1,l,h=>by
   simp only [fJ]
   split
   ·rename_i h0
    have ih:=nI n l (by omega)
    refine⟨ih.1,ih.2.trans ?_⟩
    rw [pV (by omega),h0];simp
   ·rename_i h0
    refine⟨fun hne=>?_,rfl⟩
    rw [List.getLast_eq_getElem]
    simp only [List.length_take,Nat.min_eq_left h,Nat.add_sub_cancel,List.getElem_take]
    rw [List.getD_eq_getElem?_getD,List.getElem?_eq_getElem (by omega)] at h0
    exact h0
def p6 (l:List Nat):List Nat:=l.take (fJ l.length l)
theorem fY {l:List Nat} (h:fA l):p6 l=aZ (val l):=by
 have:=nI l.length l (Nat.le_refl _)
 rw [List.take_length] at this
 rw [←this.2]
 exact(aDx (iB h _) this.1).symm
def bX (n:Nat):LV:=.v (.int .u32 n)
def dS (n:Int):LV:=.v (.int .i64 n)
theorem cV:EncOK bX 1 false:=⟨fun _=>rfl,fun _=>rfl,fun _=>rfl⟩
theorem mK:EncOK dS 1 false:=⟨fun _=>rfl,fun _=>rfl,fun _=>rfl⟩
def fF (l:List Nat):LV:=.list 1 (l.map bX)
def bQ (n:Nat):LV:=.list 1 ((aZ n).map bX)
theorem aR (n:Nat):(bQ n).pure=true:=by simp only [bQ,LV.pure];exact aF cV _
def jL (q:Rat):Nat:=if q.den=1 then 0 else q.den
@[irreducible] def ratL (q:Rat):LV:=.agg [.v (.bool (decide (q<0))),bQ q.num.natAbs,bQ (jL q)]
theorem iV (q:Rat):ratL q=.agg [.v (.bool (decide (q<0))),bQ q.num.natAbs,bQ (jL q)]:=by unfold ratL;rfl
theorem aD:EncOK ratL 3 true:=by
 refine⟨fun q=>?_,fun q=>?_,fun q=>?_⟩
 ·rw [iV];rfl
 ·rw [iV];rfl
 ·rw [iV];simp [LV.pure,aV,aR]
theorem aES (q:Rat):(ratL q).at 0 1 false=some (.v (.bool (decide (q<0)))):=by rw [iV];rfl
theorem aGg (q:Rat):(ratL q).at 1 1 false=some (bQ q.num.natAbs):=by rw [iV];rfl
theorem aEL (q:Rat):(ratL q).at 2 1 false=some (bQ (jL q)):=by rw [iV];rfl
theorem aH (q:Rat):(ratL q).at 0 3 true=some (ratL q):=by
 have:=yP (ratL q) (aD.pure q)
 rwa [aD.csize,aD.isAgg] at this
theorem fD:ratL 0=.agg [.v (.bool false),.list 1 [],.list 1 []]:=by rw [iV];rfl
@[irreducible] def spL (s:Rat × Rat):LV:=.agg [ratL s.1,ratL s.2]
theorem mG (s:Rat × Rat):spL s=.agg [ratL s.1,ratL s.2]:=by unfold spL;rfl
theorem d8:EncOK spL 6 true:=by
 refine⟨fun s=>?_,fun s=>?_,fun s=>?_⟩<;>rw [mG]<;>simp [LV.csize,aL,LV.isAgg,LV.pure,aV,aD.csize,aD.pure]
theorem fN (s:Rat × Rat):(spL s).at 0 6 true=some (spL s):=by
 have:=yP (spL s) (d8.pure s)
 rwa [d8.csize,d8.isAgg] at this
theorem aF2 (s:Rat × Rat):(spL s).at 0 3 true=some (ratL s.1):=by
 rw [mG];simp [LV.at,sJ,aL,aD.csize,aH]
theorem aGp (s:Rat × Rat):(spL s).at 3 3 true=some (ratL s.2):=by
 rw [mG];simp [LV.at,sJ,aL,aD.csize,aH]
theorem aT (q:Rat) (b:Nat):(ratL q).kill b=ratL q:=LV.kill_pure b _ (aD.pure q)
theorem aC {α:Type} {e:α→LV} {sz:Nat} {ag:Bool} (h:EncOK e sz ag) (b:Nat) (l:List α):bH b (l.map e)=l.map e:=qJ b _ (aF h l)
theorem a6 (q:Rat × Rat) (b:Nat):(spL q).kill b=spL q:=LV.kill_pure b _ (d8.pure q)
section
variable {Z:Nat→Prop} {μ:Nat→Option Nat} {w:World}
theorem cF {x:Value} (h:x.oneCell'=true):bZ Z μ w (.v x) [x]:=by simp only [bZ];exact⟨trivial,h⟩
theorem nA (sz:Nat):bZ Z μ w (.list sz []) [.slice none 0 0]:=by simp only [bZ];exact⟨none,0,0,rfl,rfl,Nat.le_refl _,.inl trivial,rfl⟩
theorem bN {l:List LV} {cs:List Value} (h:bV Z μ w l cs):bZ Z μ w (.agg l) cs:=by simp only [bZ];exact h
theorem cA:bV Z μ w [] []:=by simp only [bV]
theorem aS {x:LV} {xs:List LV} {c1 c2:List Value} (h1:c1.length=x.csize) (h2:bZ Z μ w x c1) (h3:bV Z μ w xs c2):bV Z μ w (x :: xs) (c1++c2):=by
 simp only [bV];exact⟨c1,c2,rfl,h1,h2,h3⟩
theorem bE:bZ Z μ w (ratL 0) [.bool false,.slice none 0 0,.slice none 0 0]:=by
 rw [fD]
 exact bN (aS (c1:=[.bool false]) rfl (cF rfl) (aS (c1:=[.slice none 0 0]) rfl (nA 1) (aS (c1:=[.slice none 0 0]) rfl (nA 1) cA)))
end
end Go.Lg
namespace Go.Lg
abbrev dL (n:Nat):LV:=.v (.int .u64 ((n:Nat):Int))
abbrev oK (n:Nat):LV:=.v (.int .u32 ((n:Nat):Int))
abbrev aG (n:Nat):LV:=.v (.int .i64 ((n:Nat):Int))
abbrev bL (b:Bool):LV:=.v (.bool b)
abbrev iL (n:Int):LV:=.v (.int .i64 n)
section
variable {a b:Nat}
theorem aLK (h:a+b<18446744073709551616):dU .add .u64 (a:Nat) (b:Nat)=some (.int .u64 ((a+b:Nat):Int)):=by
 simp only [dU];rw [IntWalk.u64_in _ (by omega)];simp
theorem vS (h:a*b<18446744073709551616):dU .mul .u64 (a:Nat) (b:Nat)=some (.int .u64 ((a*b:Nat):Int)):=by
 simp only [dU]
 have e:((a:Int)*(b:Int))=((a*b:Nat):Int):=by simp
 rw [e,IntWalk.u64_in _ (by omega)]
theorem aLv (h:b≤a) (h1:a<18446744073709551616):dU .sub .u64 (a:Nat) (b:Nat)=some (.int .u64 ((a-b:Nat):Int)):=by
 simp only [dU];rw [IntWalk.u64_in _ (by omega)];congr 2;omega
theorem aGz (h:b≤18446744073709551616):dU .sub .u64 (a:Nat) (b:Nat)=some (.int .u64 (((18446744073709551616+a-b) % 18446744073709551616:Nat):Int)):=by
 simp only [dU];rw [IntKind.wrap_u64];congr 2;omega
theorem aBu (h:0<b) (h1:a<18446744073709551616):dU .quo .u64 (a:Nat) (b:Nat)=some (.int .u64 ((a/b:Nat):Int)):=by
 have e:((a:Int).tdiv (b:Int))=((a/b:Nat):Int):=by simp
 have h2:a/b≤a:=Nat.div_le_self a b
 simp only [dU];rw [if_neg (by omega),e,IntWalk.u64_in _ ⟨Int.natCast_nonneg _,by omega⟩]
theorem aKr (h:0<b):dU .rem .u64 (a:Nat) (b:Nat)=some (.int .u64 ((a % b:Nat):Int)):=by
 simp only [dU];rw [if_neg (by omega)];congr 2
theorem aA4 (h:a*4294967296<18446744073709551616):shI .shl .u64 (a:Nat) 32=some (.int .u64 ((a*4294967296:Nat):Int)):=by
 have e:(2:Int) ^ min (32:Int).toNat IntKind.u64.bits=4294967296:=by decide
 simp only [shI]
 rw [if_neg (by omega),e,IntWalk.u64_in _ (by omega)];simp
theorem aLG:shI .shr .u64 (a:Nat) 32=some (.int .u64 ((a/4294967296:Nat):Int)):=by
 have e:(2:Int) ^ min (32:Int).toNat IntKind.u64.bits=4294967296:=by decide
 simp only [shI]
 rw [if_neg (by omega),e,Int.fdiv_eq_ediv_of_nonneg _ (by omega)]
 congr 2
theorem aLq:shI .shr .u64 (a:Nat) 63=some (.int .u64 ((a/9223372036854775808:Nat):Int)):=by
 have e:(2:Int) ^ min (63:Int).toNat IntKind.u64.bits=9223372036854775808:=by decide
 simp only [shI]
 rw [if_neg (by omega),e,Int.fdiv_eq_ediv_of_nonneg _ (by omega)]
 congr 2
theorem nY (n w:Nat):(BitVec.ofInt w (n:Int))=BitVec.ofNat w n:=by simp
theorem orU {x:Nat} (hb:b<4294967296) (hx:x<4294967296):dU .or .u64 ((x*4294967296:Nat):Int) (b:Nat)=some (.int .u64 ((x*4294967296+b:Nat):Int)):=by
 have e:(BitVec.ofInt IntKind.u64.bits ((x*4294967296:Nat):Int) ||| BitVec.ofInt IntKind.u64.bits (b:Int)).toNat=x*4294967296+b:=by
  rw [nY,nY,BitVec.toNat_or,BitVec.toNat_ofNat,BitVec.toNat_ofNat]
  have e1:x*4294967296 % 2 ^ IntKind.u64.bits=x*4294967296:=Nat.mod_eq_of_lt (by show _<18446744073709551616;omega)
  have e2:b % 2 ^ IntKind.u64.bits=b:=Nat.mod_eq_of_lt (by show _<18446744073709551616;omega)
  rw [e1,e2]
  have:=Nat.shiftLeft_add_eq_or_of_lt (i:=32) (b:=b) (by simpa using hb) x
  rw [Nat.shiftLeft_eq] at this
  exact this.symm
 simp only [dU,e]
 rw [IntWalk.u64_in _ (by omega)]
theorem aGG:IntKind.u32.wrap (a:Nat)=((a % 4294967296:Nat):Int):=by rw [IntKind.wrap_u32];omega
theorem aJu (h:a<18446744073709551616):IntKind.u64.wrap (a:Nat)=(a:Int):=IntWalk.u64_in _ (by omega)
theorem nO {x y:Nat} (hx:x<4294967296) (hy:y<4294967296):x*y≤18446744065119617025:=by
 have:=Nat.mul_le_mul (Nat.le_sub_one_of_lt hx) (Nat.le_sub_one_of_lt hy)
 simpa using this
end
section
variable {P:Program} {H:cM} {ρ:Operand→LV} {S D:TypeId} {x:Operand} {n:Nat} {k':IntKind}
theorem OpP.lenLm {α:Type} {e:α→LV} {sz:Nat} {l:List α} {T:TypeId} {d:TypeId} {as:Array TypeId} (hx:ρ x=.list sz (l.map e)) (has:as=#[T]) (hT:P.underlying T=some (.slice d)) :
  OpP P H ρ (.call ⟨.builtin .len,#[x],as⟩) (aG l.length):=by
 have:=OpP.lenL (H:=H) hx has hT
 rwa [List.length_map] at this
theorem OpP.cv32 {d:TypeDesc} (hS:P.underlying S=some d) (hD:P.underlying D=some (.int .u32)) (hx:ρ x=.v (.int k' (n:Nat))):OpP P H ρ (.convert S D x) (oK (n % 4294967296)):=by
 have:=OpP.conv (H:=H) hS hD hx
 rwa [aGG] at this
theorem OpP.cv64 {d:TypeDesc} (hS:P.underlying S=some d) (hD:P.underlying D=some (.int .u64)) (hx:ρ x=.v (.int k' (n:Nat))) (h:n<18446744073709551616):OpP P H ρ (.convert S D x) (dL n):=by
 have:=OpP.conv (H:=H) hS hD hx
 rwa [aJu h] at this
theorem OpP.cvI {d:TypeDesc} {m:Int} (hS:P.underlying S=some d) (hD:P.underlying D=some (.int .i64)) (hx:ρ x=.v (.int k' m)) (h1:-9223372036854775808≤m) (h2:m≤9223372036854775807):OpP P H ρ (.convert S D x) (iL m):=by
 have:=OpP.conv (H:=H) hS hD hx
 rwa [IntWalk.i64_in _ ⟨h1,h2⟩] at this
end
section
variable {P:Program} {Q:LEx→St→Prop} {L L0:St} {K:St→Prop} {dr:Bool} {ops:Array Oper} {l:List Oper}
theorem aBX {d:Nat} {b:Bool} (h:L.slot d=.v (.bool b)) (ht:b=true→opsL P dr ops l L K) (hf:b=false→opsL P dr ops l L K):opsL P dr ops l L K:=by
 cases b with
 | true=>exact ht rfl
 | false=>exact hf rfl
theorem aY {c:Operand} {x y:Code} {b:Bool} (hc:L.ev c=.v (.bool b)) (hb:b=true) (h:wpL P x Q L):wpL P (.cond c x y) Q L:=yW hc (fun _=>h) (fun e=>by rw [hb] at e;cases e)
theorem bO {c:Operand} {x y:Code} {b:Bool} (hc:L.ev c=.v (.bool b)) (hb:b=false) (h:wpL P y Q L):wpL P (.cond c x y) Q L:=yW hc (fun e=>by rw [hb] at e;cases e) (fun _=>h)
end
theorem a7.own {L:St} {t:Nat} (d sz:Nat) (h:L.slot t=.v (.slice none 0 0)) (hd:L.heap d=none):a7 L ((L.setB d (some ⟨sz,[],true⟩)).put (some t) (.ref d sz 0 0)):=by
 rintro n W X Z0 a w ⟨hdf,hsz,μ,Z,hc,hr⟩
 refine⟨hdf,hsz,μ,Z,?_,fun s=>?_⟩
 ·rw [eL]
  refine hc.reheap fun c id hcd=>?_
  have:c≠d:=by rintro rfl;rw [jD hc hd] at hcd;cases hcd
  simp [St.setB,this]
 ·rw [bU]
  split
  ·rename_i hst
   subst hst
   have e:=hr s
   rw [h] at e
   rw [e.v_eq]
   exact⟨by simp [LV.isAgg],fun _=>by simp [bZ]⟩
  ·exact hr s
theorem a7.any (L:St) (t:Nat):a7 L (L.put (some t) .any):=by
 rintro n W X Z0 a w ⟨hdf,hsz,μ,Z,hc,hr⟩
 refine⟨hdf,hsz,μ,Z,by rw [eL];exact hc,fun s=>?_⟩
 rw [bU]
 split
 ·trivial
 ·exact hr s
def hp:List (Nat × Blk)→cM
 | [],_=>none
 | (b,x) :: l,c=>bif Nat.beq c b then some x else hp l c
def ins (b:Nat) (x:Blk):List (Nat × Blk)→List (Nat × Blk)
 | []=>[(b,x)]
 | (c,y) :: l=>bif Nat.beq c b then(b,x) :: l else(c,y) :: ins b x l
def mN (b:Nat):List (Nat × Blk)→List (Nat × Blk)
 | []=>[]
 | (c,y) :: l=>bif Nat.beq c b then mN b l else(c,⟨y.sz,bH b y.vals,y.mt⟩) :: mN b l
def aCf (bs:List Nat):List (Nat × Blk)→List (Nat × Blk)
 | []=>[]
 | (c,y) :: l=>(c,⟨y.sz,y.vals,y.mt && !bs.contains c⟩) :: aCf bs l
theorem beq_eq {a b:Nat} (h:Nat.beq a b=true):a=b:=Nat.eq_of_beq_eq_true h
theorem gR (a:Nat):Nat.beq a a=true:=by rw [Nat.beq_eq]
theorem iA {a b:Nat} (h:a≠b):Nat.beq a b=false:=by rw [←Bool.not_eq_true,Nat.beq_eq];exact h
theorem aGi (b:Nat) (x:Blk):∀ (l:List (Nat × Blk)) (c:Nat),hp (ins b x l) c=if c=b then some x else hp l c
 | [],c=>by
   simp only [ins,hp]
   by_cases h:c=b
   ·subst h;rw [gR];simp
   ·rw [iA h,if_neg h];rfl
 | (d,y) :: l,c=>by
   simp only [ins]
   by_cases hdb:d=b
   ·subst hdb
    rw [gR]
    simp only [cond_true,hp]
    by_cases h:c=d
    ·subst h;rw [gR];simp
    ·rw [iA h,if_neg h];rfl
   ·rw [iA hdb]
    simp only [cond_false,hp,aGi b x l c]
    by_cases h:c=d
    ·subst h;rw [gR];simp [hdb]
    ·rw [iA h];rfl
theorem aAd (b:Nat):∀ (l:List (Nat × Blk)) (c:Nat),hp (mN b l) c=if c=b then none else(hp l c).map fun blk=>⟨blk.sz,bH b blk.vals,blk.mt⟩
 | [],c=>by simp [mN,hp]
 | (d,y) :: l,c=>by
   simp only [mN]
   by_cases hdb:d=b
   ·subst hdb
    rw [gR]
    simp only [cond_true,aAd d l c,hp]
    by_cases h:c=d
    ·rw [if_pos h,if_pos h]
    ·rw [if_neg h,if_neg h,iA h];rfl
   ·rw [iA hdb]
    simp only [cond_false,hp,aAd b l c]
    by_cases h:c=d
    ·subst h;rw [gR];simp [hdb]
    ·rw [iA h];rfl
theorem aF8 (bs:List Nat):∀ (l:List (Nat × Blk)) (c:Nat),hp (aCf bs l) c=(hp l c).map fun blk=>⟨blk.sz,blk.vals,blk.mt && !bs.contains c⟩
 | [],c=>rfl
 | (d,y) :: l,c=>by
   simp only [aCf,hp,aF8 bs l c]
   by_cases h:c=d
   ·subst h;rw [gR];rfl
   ·rw [iA h];rfl
theorem b1 (s:Nat→LV) (l:List (Nat × Blk)) (b:Nat) (x:Blk):(St.mk s (hp l)).setB b (some x)=St.mk s (hp (ins b x l)):=by
 simp only [St.setB,St.mk.injEq,true_and];funext c;rw [aGi]
theorem b2 (L:St) (t:Nat) (r:LV) (b:Nat) (x:Option Blk):(L.put (some t) r).setB b x=(L.setB b x).put (some t) r:=rfl
theorem b3 (s:Nat→LV) (l:List (Nat × Blk)) (b:Nat):(St.mk s (hp l)).kill b=St.mk (fun t=>(s t).kill b) (hp (mN b l)):=by
 simp only [St.kill,St.mk.injEq,true_and];funext c;rw [aAd]
theorem b4 (L:St) (t:Nat) (r:LV) (b:Nat):(L.put (some t) r).kill b=(L.kill b).put (some t) (r.kill b):=by
 simp only [St.kill,St.put,St.mk.injEq,and_true]
 funext s
 cases Nat.beq s t<;>rfl
theorem b5 (s:Nat→LV) (l:List (Nat × Blk)) (bs:List Nat):(St.mk s (hp l)).frz bs=St.mk s (hp (aCf bs l)):=by
 simp only [St.frz,St.mk.injEq,true_and];funext c;rw [aF8]
theorem b6 (L:St) (t:Nat) (r:LV) (bs:List Nat):(L.put (some t) r).frz bs=(L.frz bs).put (some t) r:=rfl
theorem i1 (b:Nat) (x:Blk):ins b x []=[(b,x)]:=rfl
theorem i2 (b c:Nat) (x y:Blk) (l:List (Nat × Blk)) (h:(c==b)=true):ins b x ((c,y) :: l)=(b,x) :: l:=by
 simp only [beq_iff_eq] at h;simp only [ins,h,gR,cond_true]
theorem i3 (b c:Nat) (x y:Blk) (l:List (Nat × Blk)) (h:(c==b)=false):ins b x ((c,y) :: l)=(c,y) :: ins b x l:=by
 have h':c≠b:=by simpa using h
 simp only [ins,iA h',cond_false]
theorem i4 (b:Nat):mN b []=[]:=rfl
theorem i5 (b c:Nat) (y:Blk) (l:List (Nat × Blk)) (h:(c==b)=true):mN b ((c,y) :: l)=mN b l:=by
 simp only [beq_iff_eq] at h;simp only [mN,h,gR,cond_true]
theorem i6 (b c:Nat) (y:Blk) (l:List (Nat × Blk)) (h:(c==b)=false):mN b ((c,y) :: l)=(c,⟨y.sz,bH b y.vals,y.mt⟩) :: mN b l:=by
 have h':c≠b:=by simpa using h
 simp only [mN,iA h',cond_false]
theorem bB {L:St} {l:List (Nat × Blk)} (h:L.heap=hp l):St.mk L.slot (hp l)=L:=by rw [←h]
def s5 (b:Nat):List (Nat × Blk)→List (Nat × Blk)
 | []=>[]
 | (c,y) :: l=>bif Nat.beq c b then s5 b l else(c,y) :: s5 b l
theorem aBT (b:Nat):∀ (l:List (Nat × Blk)) (c:Nat),hp (s5 b l) c=if c=b then none else hp l c
 | [],c=>by simp [s5,hp]
 | (d,y) :: l,c=>by
   simp only [s5]
   by_cases hdb:d=b
   ·subst hdb
    rw [gR]
    simp only [cond_true,aBT d l c,hp]
    by_cases h:c=d
    ·rw [if_pos h,if_pos h]
    ·rw [if_neg h,if_neg h,iA h];rfl
   ·rw [iA hdb]
    simp only [cond_false,hp,aBT b l c]
    by_cases h:c=d
    ·subst h;rw [gR];simp [hdb]
    ·rw [iA h];rfl
theorem bh7 (s:Nat→LV) (l:List (Nat × Blk)) (b:Nat):(St.mk s (hp l)).setB b none=St.mk s (hp (s5 b l)):=by
 show St.mk s _=_
 congr 1;funext c
 exact(aBT b l c).symm
theorem dh1 (b:Nat):s5 b []=[]:=rfl
theorem dh2 (b c:Nat) (y:Blk) (l:List (Nat × Blk)) (h:(c==b)=true):s5 b ((c,y) :: l)=s5 b l:=by
 have:c=b:=by simpa using h
 subst this;simp only [s5,gR,cond_true]
theorem dh3 (b c:Nat) (y:Blk) (l:List (Nat × Blk)) (h:(c==b)=false):s5 b ((c,y) :: l)=(c,y) :: s5 b l:=by
 have:c≠b:=by simpa using h
 simp only [s5,iA this,cond_false]
def aN (P:Program) (f:FuncId) (args:List LV) (r:LV):Prop:=gM P f args r []∧∀ g,r.ren g=r
section
variable {P:Program} {dr:Bool} {ops:Array Oper} {rest:List Oper} {L:St} {K:St→Prop} {dst:Option Tmp} {ty:TypeId} {pos:String} {af:Array Edge} {g:Option (Nat × Bool)}
theorem cY {f:FuncId} {xs:Array Operand} {as:Array TypeId} {args:List LV} {r:LV} (hg:bS ops L ⟨dst,.call ⟨.value (.func f),xs,as⟩,ty,pos,af,g⟩ true)
  (ha:ImmL L.heap (xs.toList.map L.ev) args) (hk:aN P f args r) (k:opsL P dr ops rest (L.put dst r) K) :
  opsL P dr ops (⟨dst,.call ⟨.value (.func f),xs,as⟩,ty,pos,af,g⟩ :: rest) L K:=aGW hg ha hk.1 (hk.2 _) k
theorem pJ {f:FuncId} {xs:Array Operand} {as:Array TypeId} {args:List LV} {r:LV} (bs:List Nat) (hg:bS ops L ⟨dst,.call ⟨.value (.func f),xs,as⟩,ty,pos,af,g⟩ true) (h0:bs.contains 0=false)
  (ha:ImmL (L.frz bs).heap (xs.toList.map L.ev) args) (hk:aN P f args r) (k:opsL P dr ops rest ((L.frz bs).put dst r) K) :
  opsL P dr ops (⟨dst,.call ⟨.value (.func f),xs,as⟩,ty,pos,af,g⟩ :: rest) L K:=aDs bs hg h0 ha hk.1 (hk.2 _) k
theorem aE4 {f:FuncId} {fn:Func} {c:Code} {args:List LV} {r:LV} (hfol:P.follows .mixedOrders=true) (hf:P.funcs[f]?=some fn) (hb:fn.body=some c)
  (hn:(fn.name== "runtime.NumGoroutine")=false) (hd:fC fn.ntmps c=true) (hlen:args.length≤fn.ntmps) (ht:∀ g,r.ren g=r)
  (h:wpL P c (fun e L=>match e with | .exit _=>False | _=>n9 P fn.results.toList L r []) (St.mk (fun t=>args.getD t .any) (hp []))):aN P f args r:=⟨x5 hfol hf hb hn hd hlen h,ht⟩
end
theorem aG2 {P:Program} {f:FuncId} {fn:Func} {c:Code} {args:List LV} {r:LV} {bs:List Blk} (hfol:P.follows .mixedOrders=true) (hf:P.funcs[f]?=some fn) (hb:fn.body=some c)
  (hn:(fn.name== "runtime.NumGoroutine")=false) (hd:fC fn.ntmps c=true) (hlen:args.length≤fn.ntmps)
  (h:wpL P c (fun e L=>match e with | .exit _=>False | _=>n9 P fn.results.toList L r bs) (St.mk (fun t=>args.getD t .any) (hp []))):gM P f args r bs:=x5 hfol hf hb hn hd hlen h
theorem aFf {P:Program} {f:FuncId} {fn:Func} {c:Code} {args:List LV} {r:LV} {blk blk':Blk} (hfol:P.follows .mixedOrders=true) (hf:P.funcs[f]?=some fn) (hb:fn.body=some c)
  (hn:(fn.name== "runtime.NumGoroutine")=false) (hd:fC fn.ntmps c=true) (hlen:args.length≤fn.ntmps) (hmt:blk.mt=true)
  (h:wpL P c (fun e L=>match e with | .exit _=>False | _=>aAI P fn.results.toList L r blk') (St.mk (fun t=>args.getD t .any) (hp [(0,blk)]))):fZ P f blk args r blk':=by
 refine aB0 hfol hf hb hn hd hlen hmt ?_
 have:StM args blk=St.mk (fun t=>args.getD t .any) (hp [(0,blk)]):=by
  simp only [StM,St.mk.injEq,true_and]
  funext c
  simp only [hp]
  by_cases hc:c=0
  ·subst hc;rfl
  ·rw [iA hc,if_neg hc];rfl
 rw [this];exact h
theorem aD6 {x:LV} (h:x.pure=true):∀ g,x.ren g=x:=fun g=>LV.ren_pure g x h
theorem gU {x y:LV} (h:x.pure=true) (h':y.pure=true):∀ g,(LV.tup [x,y]).ren g=.tup [x,y]:=fun g=>by
 simp only [LV.ren,eZ,LV.ren_pure g x h,LV.ren_pure g y h']
theorem aFL {x y z:LV} (h:x.pure=true) (h':y.pure=true) (h'':z.pure=true):∀ g,(LV.tup [x,y,z]).ren g=.tup [x,y,z]:=fun g=>by
 simp only [LV.ren,eZ,LV.ren_pure g x h,LV.ren_pure g y h',LV.ren_pure g z h'']
theorem bF (l:List Nat):(fF l).pure=true:=aJ cV 1 l
theorem t1 (n:Nat):((n:Nat):Int).toNat=n:=rfl
theorem t2 (k:IntKind) (n:Nat):bX n=.v (.int .u32 (n:Nat)):=rfl
theorem aBg {L:St} {α:Type} {e:α→LV} {ag:Bool} {bs:List Nat} {b sz len:Nat} {l:List α} {m:Bool} (he:EncOK e sz ag) (hb:L.heap b=some ⟨sz,l.map e,m⟩) (hbs:bs.contains b=true) (hl:len≤l.length) :
  Imm (L.frz bs).heap (.ref b sz 0 len) (.list sz ((l.take len).map e)):=by
 have:=o5 (L:=L) (bs:=bs) (off:=0) (len:=len) hb hbs (aF he l) (by simp [hl])
 rwa [List.drop_zero,←List.map_take] at this
theorem nN {P:Program} {L:St} {t:Nat} {x y:LV} {blk:Blk} (h:L.slot t=x) (hi:ArgM L.heap 0 x y) (hb:L.heap 0=some blk) (hm:blk.mt=true) (hp:aV blk.vals=true):aAI P [.tmp t] L y blk :=
 ⟨[x],[y],L.heap,.cons h .nil,cM.le_refl _,.cons hi .nil,hb,hm,hp,rfl⟩
theorem aLt {P:Program} {L:St} {blk:Blk} (hb:L.heap 0=some blk) (hm:blk.mt=true) (hp:aV blk.vals=true):aAI P [] L (.tup []) blk :=
 ⟨[],[],L.heap,.nil,cM.le_refl _,.nil,hb,hm,hp,rfl⟩
theorem r1 (f:Nat→Nat) (b sz off len:Nat):(LV.ref b sz off len).ren f=.ref (f b) sz off len:=rfl
theorem r2 (f:Nat→Nat) (b sz i o:Nat):(LV.eptr b sz i o).ren f=.eptr (f b) sz i o:=rfl
theorem r3 (f:Nat→Nat) (x:Value):(LV.v x).ren f=.v x:=rfl
theorem r4 (d k:Nat):bK d k=1000000+d*16+k:=rfl
section
variable {P:Program} {H:cM} {ρ:Operand→LV} {T E:TypeId} {x z:Operand} {b sz off len h:Nat} {k':IntKind} {ag:Bool}
theorem OpP.sliceRh (hx:ρ x=.ref b sz off len) (hT:P.underlying T=some (.slice E)) (hE:bT P E sz ag) (hhi:ρ z=.v (.int k' (h:Nat))) (h2:h≤len) (h0:0<len) :
  OpP P H ρ (.slice T x none (some z) none) (.ref b sz off h):=by
 have:=OpP.sliceR (P:=P) (H:=H) (ρ:=ρ) (la:=none) (ha:=some z) (a:=0) (h:=h) hx hT hE (fun w hw=>by cases hw) (fun _=>rfl) (fun w hw=>by cases hw;exact⟨_,hhi⟩) (fun h=>by cases h) (by omega) h2 h0
 simpa using this
end
end Go.Lg
namespace Go.Lg
theorem eQ:(default:Nat)=0:=rfl
theorem cI (l:List Nat) (k:Nat):val (l.take (k+1))=val (l.take k)+4294967296 ^ k*l.getD k 0:=by
 by_cases h:k<l.length
 ·exact pV h
 ·have h1:l.take (k+1)=l:=List.take_of_length_le (by omega)
  have h2:l.take k=l:=List.take_of_length_le (by omega)
  have h3:l.getD k 0=0:=by rw [List.getD_eq_getElem?_getD,List.getElem?_eq_none (by omega)];rfl
  rw [h1,h2,h3];simp
theorem iC (l:List Nat) {k:Nat} (h:l.length≤k):val (l.take k)=val l:=by rw [List.take_of_length_le h]
theorem aBf (l:List Nat) (k j x:Nat) (h:k≤j):(l.set j x).take k=l.take k:=by rw [List.take_set_of_le h]
theorem f3 (l:List Nat) (k x:Nat) (h:k<l.length):val ((l.set k x).take (k+1))=val (l.take k)+4294967296 ^ k*x:=by
 rw [cI,aBf _ _ _ _ (Nat.le_refl k),List.getD_eq_getElem?_getD,List.getElem?_set_self h];rfl
theorem eM {l:List Nat} (h:fA l) (k x:Nat) (hx:x<4294967296):fA (l.set k x):=fun y hy=>by
 rcases List.mem_or_eq_of_mem_set hy with hy | rfl
 ·exact h y hy
 ·exact hx
theorem cL {l:List Nat} (h:fA l) (k:Nat):l.getD k 0<4294967296:=aFd h k
theorem pP (l:List Nat) (k x:Nat) (h:k<l.length):(l.set k x).getD k 0=x:=by
 rw [List.getD_eq_getElem?_getD,List.getElem?_set_self h];rfl
theorem getD_set_ne (l:List Nat) (k j x:Nat) (h:k≠j):(l.set k x).getD j 0=l.getD j 0:=by
 rw [List.getD_eq_getElem?_getD,List.getD_eq_getElem?_getD,List.getElem?_set_ne h]
theorem iF (l:List Nat) (k:Nat) (h:l.length≤k):l.getD k 0=0:=by
 rw [List.getD_eq_getElem?_getD,List.getElem?_eq_none h];rfl
theorem iW (p s:Nat):p*(s % 4294967296)+p*4294967296*(s/4294967296)=p*s:=by
 rw [Nat.mul_assoc,←Nat.mul_add,Nat.mod_add_div]
theorem bM (n k:Nat):(aZ n).getD k 0<4294967296:=cL (aW n) k
theorem cP {m n:Nat} (h:m≤n):(aZ m).length≤(aZ n).length:=by
 apply eO
 have:=qH (aW n);rw [aX] at this;omega
theorem eY {l:List Nat} (h:fA l) {k:Nat} (hk:l.length≤k):val l<4294967296 ^ k :=
 Nat.lt_of_lt_of_le (qH h) (Nat.pow_le_pow_right (by omega) hk)
theorem uI:aZ 1=[1]:=rfl
theorem lF {n:Nat} (h0:0<n) (h:n<4294967296):aZ n=[n]:=by
 rw [lZ h0,Nat.mod_eq_of_lt h,Nat.div_eq_of_lt h];rfl
theorem eJ {n:Nat}:(aZ n).length≤1↔n<4294967296:=lU
theorem f5 {n:Nat}:(aZ n).length≤2↔n<18446744073709551616:=by
 rw [lU]
theorem zQ (x y:Nat):val [x,y]=x+4294967296*y:=by simp [val]
theorem kG {l:List Nat} (h:Can l) (hne:0<l.length):l.getD (l.length-1) 0≠0:=by
 have h1:l≠[]:=by rintro rfl;simp at hne
 have:=h h1
 rw [List.getLast_eq_getElem] at this
 rw [List.getD_eq_getElem?_getD,List.getElem?_eq_getElem (by omega)]
 exact this
end Go.Lg
namespace Go.Lg
theorem eW {l:List Nat} {k:Nat} (h:k<l.length):val (l.drop k)=l.getD k 0+4294967296*val (l.drop (k+1)):=by
 rw [List.drop_eq_getElem_cons h,val,List.getD_eq_getElem?_getD,List.getElem?_eq_getElem h];rfl
theorem pT {l:List Nat} {k x:Nat} (h:k<l.length):val ((l.set k x).drop k)=x+4294967296*val (l.drop (k+1)):=by
 rw [eW (by simpa using h),pP _ _ _ h,List.drop_set_of_lt (by omega)]
theorem tF {l:List Nat} (h:fA l) {k j:Nat} (hk:l.length≤k+j):val (l.drop k)<4294967296 ^ j :=
 eY (aFO h k) (by simp;omega)
theorem o8 {l:List Nat} {k x:Nat} (h:k<l.length):val (l.set k x)+4294967296 ^ k*l.getD k 0=val l+4294967296 ^ k*x:=by
 induction l generalizing k with
 | nil=>simp at h
 | cons a l ih =>
  cases k with
  | zero=>simp [val];omega
  | succ k =>
   have:=ih (k:=k) (by simpa using h)
   simp only [List.set_cons_succ,val,List.getD_cons_succ,Nat.pow_succ]
   have e1:4294967296 ^ k*4294967296*l.getD k 0=4294967296*(4294967296 ^ k*l.getD k 0):=by rw [Nat.mul_comm (4294967296 ^ k),Nat.mul_assoc]
   have e2:4294967296 ^ k*4294967296*x=4294967296*(4294967296 ^ k*x):=by rw [Nat.mul_comm (4294967296 ^ k),Nat.mul_assoc]
   rw [e1,e2];omega
theorem fR (l:List Nat) (k:Nat) (h:k≤l.length):val l=val (l.take k)+4294967296 ^ k*val (l.drop k):=by
 have:=lR (l.take k) (l.drop k)
 rwa [List.take_append_drop,List.length_take,Nat.min_eq_left h] at this
def kY (m n:Nat):Int:=if m<n then -1 else if n<m then 1 else 0
theorem f9 {m n:Nat} (h:m<n):kY m n=-1:=by simp [kY,h]
theorem gZ {m n:Nat} (h:n<m):kY m n=1:=by simp [kY,h];omega
theorem iG {m n:Nat} (h:m=n):kY m n=0:=by simp [kY,h]
theorem o7 {m n:Nat} (h:(aZ m).length<(aZ n).length):m<n:=by
 have h1:=qH (aW m);rw [aX] at h1
 apply Classical.byContradiction
 intro h2
 have:=cP (Nat.le_of_not_lt h2)
 omega
theorem jA {a b:List Nat} (ha:fA a) {k:Nat} (hk:k<a.length) (hk':k<b.length) (hd:a.drop (k+1)=b.drop (k+1)) (h:a.getD k 0<b.getD k 0):val a<val b:=by
 rw [fR a k (by omega),fR b k (by omega),eW hk,eW hk',hd]
 have h1:val (a.take k)<4294967296 ^ k:=eY (iB ha k) (by simp;omega)
 have h2:4294967296 ^ k*(a.getD k 0+1)≤4294967296 ^ k*b.getD k 0:=Nat.mul_le_mul_left _ h
 rw [Nat.mul_add,Nat.mul_add]
 rw [Nat.mul_add] at h2
 omega
theorem vL {a b:List Nat} {k:Nat} (hk:k<a.length) (hk':k<b.length) (hd:a.drop (k+1)=b.drop (k+1)) (h:a.getD k 0=b.getD k 0):a.drop k=b.drop k:=by
 rw [List.drop_eq_getElem_cons hk,List.drop_eq_getElem_cons hk',hd]
 rw [List.getD_eq_getElem?_getD,List.getElem?_eq_getElem hk,List.getD_eq_getElem?_getD,List.getElem?_eq_getElem hk'] at h
 simp only [Option.getD_some] at h
 rw [h]
theorem aB5 {a b:List Nat} {k:Nat} (hk:k<a.length) (hk':k<b.length) (hd:a.take k=b.take k) (h:a.getD k 0=b.getD k 0):a.take (k+1)=b.take (k+1):=by
 rw [List.take_succ_eq_append_getElem hk,List.take_succ_eq_append_getElem hk',hd]
 rw [List.getD_eq_getElem?_getD,List.getElem?_eq_getElem hk,List.getD_eq_getElem?_getD,List.getElem?_eq_getElem hk'] at h
 simp only [Option.getD_some] at h
 rw [h]
theorem aCI {k c:Nat} {a b o:List Nat} (hol:k<o.length) (hv:val (o.take k)+4294967296 ^ k*c=val (a.take k)+val (b.take k)) {s:Nat} (hs:s=c+a.getD k 0+b.getD k 0) :
  val ((o.set k (s % 4294967296)).take (k+1))+4294967296 ^ (k+1)*(s/4294967296)=val (a.take (k+1))+val (b.take (k+1)):=by
 rw [f3 _ _ _ hol,cI a,cI b,Nat.pow_succ]
 have h1:=iW (4294967296 ^ k) s
 have h2:4294967296 ^ k*s=4294967296 ^ k*c+4294967296 ^ k*a.getD k 0+4294967296 ^ k*b.getD k 0:=by rw [hs,Nat.mul_add,Nat.mul_add]
 omega
theorem aId {c:Nat} {a b o:List Nat} (hba:b.length≤a.length) (hol:o.length=a.length+1) (hlo:fA o) (hc:c<4294967296) (hv:val (o.take a.length)+4294967296 ^ a.length*c=val (a.take a.length)+val (b.take a.length)) :
  p6 (o.set a.length c)=aZ (val a+val b):=by
 rw [fY (eM hlo _ _ hc)]
 congr 1
 have h1:=f3 o a.length c (by omega)
 rw [List.take_of_length_le (by simp;omega)] at h1
 rw [iC a (Nat.le_refl _),iC b hba] at hv
 omega
theorem aAM {k br:Nat} {a b o:List Nat} (hol:k<o.length) (hv:val (o.take k)+val (b.take k)=val (a.take k)+4294967296 ^ k*br) {y:Nat} (hy:y=br+b.getD k 0) (h:y≤a.getD k 0) :
  val ((o.set k (a.getD k 0-y)).take (k+1))+val (b.take (k+1))=val (a.take (k+1))+4294967296 ^ (k+1)*0:=by
 rw [f3 _ _ _ hol,cI a,cI b]
 have h2:4294967296 ^ k*a.getD k 0=4294967296 ^ k*(a.getD k 0-y)+4294967296 ^ k*br+4294967296 ^ k*b.getD k 0:=by
  rw [←Nat.mul_add,←Nat.mul_add];congr 1;omega
 omega
theorem aAo {k br:Nat} {a b o:List Nat} (hol:k<o.length) (hv:val (o.take k)+val (b.take k)=val (a.take k)+4294967296 ^ k*br) {y:Nat} (hy:y=br+b.getD k 0) (h:a.getD k 0<y) (hy2:y≤4294967296) :
  val ((o.set k (4294967296+a.getD k 0-y)).take (k+1))+val (b.take (k+1))=val (a.take (k+1))+4294967296 ^ (k+1)*1:=by
 rw [f3 _ _ _ hol,cI a,cI b,Nat.pow_succ]
 have h2:4294967296 ^ k*4294967296+4294967296 ^ k*a.getD k 0=4294967296 ^ k*(4294967296+a.getD k 0-y)+4294967296 ^ k*br+4294967296 ^ k*b.getD k 0:=by
  rw [←Nat.mul_add,←Nat.mul_add,←Nat.mul_add];congr 1;omega
 omega
theorem aDv {br:Nat} {a b o:List Nat} (hla:fA a) (hlo:fA o) (hol:o.length=a.length) (hbl:b.length≤a.length) (hle:val b≤val a)
  (hv:val (o.take a.length)+val (b.take a.length)=val (a.take a.length)+4294967296 ^ a.length*br):p6 o=aZ (val a-val b):=by
 rw [fY hlo]
 congr 1
 rw [iC a (Nat.le_refl _),iC b hbl,iC o (by omega)] at hv
 have h1:=qH hlo
 rw [hol] at h1
 cases br with
 | zero=>omega
 | succ n =>
  rw [Nat.mul_succ] at hv
  omega
theorem aC1 {i j c x:Nat} {b o:List Nat} {v0:Nat} (hol:i+j<o.length) (hv:val o+4294967296 ^ (i+j)*c=v0+4294967296 ^ i*(x*val (b.take j))) {s:Nat}
  (hs:s=c+(x*b.getD j 0+o.getD (i+j) 0)) :
  val (o.set (i+j) (s % 4294967296))+4294967296 ^ (i+(j+1))*(s/4294967296)=v0+4294967296 ^ i*(x*val (b.take (j+1))):=by
 have h1:=o8 (x:=s % 4294967296) hol
 have h2:=iW (4294967296 ^ (i+j)) s
 have h3:4294967296 ^ i*(x*val (b.take (j+1)))=4294967296 ^ i*(x*val (b.take j))+4294967296 ^ (i+j)*(x*b.getD j 0):=by
  rw [cI,Nat.mul_add,Nat.mul_add,Nat.pow_add]
  congr 1
  rw [Nat.mul_left_comm x,Nat.mul_assoc]
 have h4:4294967296 ^ (i+j)*s=4294967296 ^ (i+j)*c+4294967296 ^ (i+j)*(x*b.getD j 0)+4294967296 ^ (i+j)*o.getD (i+j) 0:=by
  rw [hs,Nat.mul_add,Nat.mul_add];omega
 have h5:4294967296 ^ (i+(j+1))=4294967296 ^ (i+j)*4294967296:=by rw [←Nat.add_assoc,Nat.pow_succ]
 rw [h3,h5]
 omega
theorem aCD {i c x:Nat} {a b o:List Nat} {v0:Nat} (_hi:i<a.length) (hol:i+b.length<o.length) (h0:o.getD (i+b.length) 0=0) (hx:x=a.getD i 0) (hv0:v0=val (a.take i)*val b)
  (hv:val o+4294967296 ^ (i+b.length)*c=v0+4294967296 ^ i*(x*val (b.take b.length))) :
  val (o.set (i+b.length) c)=val (a.take (i+1))*val b:=by
 have h1:=o8 (x:=c) hol
 rw [List.take_length] at hv
 have h2:val (a.take (i+1))*val b=v0+4294967296 ^ i*(x*val b):=by
  rw [cI,Nat.add_mul,hv0,hx,Nat.mul_assoc]
 rw [h2]
 rw [h0] at h1
 omega
theorem xP {k d r:Nat} {a q:List Nat} (hk:k<a.length) (hq:q.length=a.length) (hv:val (q.drop (k+1))*d+r=val (a.drop (k+1))) {s:Nat} (hs:s=r*4294967296+a.getD k 0) :
  val ((q.set k (s/d)).drop k)*d+s % d=val (a.drop k):=by
 rw [pT (by omega),eW hk,←hv,Nat.add_mul]
 have:=Nat.div_add_mod s d
 rw [Nat.mul_comm (s/d)]
 rw [Nat.mul_add,hs] at *
 have e:4294967296*val (q.drop (k+1))*d=4294967296*(val (q.drop (k+1))*d):=by rw [Nat.mul_assoc]
 rw [e]
 omega
theorem aAp {d r x:Nat} (hr:r<d) (hx:x<4294967296):(r*4294967296+x)/d<4294967296:=by
 rw [Nat.div_lt_iff_lt_mul (by omega)]
 have:(r+1)*4294967296≤d*4294967296:=Nat.mul_le_mul_right _ hr
 rw [Nat.mul_comm 4294967296];omega
theorem xJ {d r:Nat} {a q:List Nat} (hd:0<d) (hr:r<d) (hq:fA q) (hv:val (q.drop 0)*d+r=val (a.drop 0)):p6 q=aZ (val a/d)∧r=val a % d:=by
 rw [List.drop_zero,List.drop_zero] at hv
 rw [fY hq,←hv]
 refine⟨?_,?_⟩
 ·congr 1
  rw [Nat.mul_comm,Nat.mul_add_div hd,Nat.div_eq_of_lt hr];rfl
 ·rw [Nat.mul_comm,Nat.mul_add_mod,Nat.mod_eq_of_lt hr]
theorem aDY {k c p:Nat} {a o:List Nat} (hol:k<o.length) (hv:val (o.take k)+4294967296 ^ k*c=val (a.take k)*p) {s:Nat} (hs:s=a.getD k 0*p+c) :
  val ((o.set k (s % 4294967296)).take (k+1))+4294967296 ^ (k+1)*(s/4294967296)=val (a.take (k+1))*p:=by
 rw [f3 _ _ _ hol,cI a,Nat.pow_succ,Nat.add_mul]
 have h1:=iW (4294967296 ^ k) s
 have h2:4294967296 ^ k*s=4294967296 ^ k*(a.getD k 0*p)+4294967296 ^ k*c:=by rw [hs,Nat.mul_add]
 have h3:4294967296 ^ k*a.getD k 0*p=4294967296 ^ k*(a.getD k 0*p):=by rw [Nat.mul_assoc]
 omega
theorem aDW {c p:Nat} {a o:List Nat} (hol:o.length=a.length+1) (hv:val (o.take a.length)+4294967296 ^ a.length*c=val (a.take a.length)*p):val (o.set a.length c)=val a*p:=by
 have h1:=f3 o a.length c (by omega)
 rw [List.take_of_length_le (by simp;omega)] at h1
 rw [iC a (Nat.le_refl _)] at hv
 omega
def eC (n:Nat):Nat:=if n=0 then 0 else n.log2+1
theorem gH {n:Nat}:eC n=0↔n=0:=by unfold eC;split<;>simp_all
theorem iS {n k:Nat}:eC n≤k↔n<2 ^ k:=by
 unfold eC
 split
 ·rename_i h;subst h;simp [Nat.pow_pos]
 ·rename_i h
  rw [Nat.succ_le_iff,Nat.log2_lt h]
theorem zL {n k:Nat}:k<eC n↔2 ^ k≤n:=by
 rw [←Nat.not_le,iS,Nat.not_lt]
theorem aFb {n:Nat}:eC n=1↔n=1:=by
 have h1:=iS (n:=n) (k:=1)
 have h0:=gH (n:=n)
 simp only [Nat.pow_one] at h1
 omega
theorem aH7 {n k:Nat} (h1:2 ^ k≤n) (h2:n<2 ^ (k+1)):eC n=k+1:=by
 have a:=zL.2 h1
 have b:=iS.2 h2
 omega
theorem rJ {n k:Nat} (h:2 ^ k≤n):eC n=k+eC (n/2 ^ k):=by
 have hp:0<2 ^ k:=Nat.pow_pos (by omega)
 have h0:n/2 ^ k≠0:=by
  intro e
  rw [Nat.div_eq_zero_iff] at e
  omega
 have h1:0<eC (n/2 ^ k):=by
  rcases Nat.eq_zero_or_pos (eC (n/2 ^ k)) with e | e
  ·exact absurd (gH.1 e) h0
  ·exact e
 obtain⟨j,hj⟩:∃ j,eC (n/2 ^ k)=j+1:=⟨_,(Nat.sub_add_cancel h1).symm⟩
 have h2:2 ^ j≤n/2 ^ k:=zL.1 (by omega)
 have h3:n/2 ^ k<2 ^ (j+1):=iS.1 (by omega)
 rw [Nat.le_div_iff_mul_le hp,←Nat.pow_add] at h2
 rw [Nat.div_lt_iff_lt_mul hp,←Nat.pow_add] at h3
 rw [hj]
 have:=aH7 (n:=n) (k:=k+j) (by rwa [Nat.add_comm k]) (by rwa [Nat.add_comm k,Nat.add_right_comm])
 omega
theorem aG0 {l:List Nat} (hL:fA l) (h:Can l) (hl:0<l.length):eC (val l)=32*(l.length-1)+eC (l.getD (l.length-1) 0):=by
 have hne:=kG h hl
 have hp:0<4294967296 ^ (l.length-1):=Nat.pow_pos (by omega)
 have hd:val (l.drop (l.length-1))=l.getD (l.length-1) 0:=by
  rw [eW (by omega),show l.length-1+1=l.length by omega,List.drop_length];simp [val]
 have hs:=fR l (l.length-1) (by omega)
 have ht:val (l.take (l.length-1))<4294967296 ^ (l.length-1):=eY (iB hL _) (by simp)
 rw [hd] at hs
 have hpow:(2:Nat) ^ (32*(l.length-1))=4294967296 ^ (l.length-1):=by rw [Nat.pow_mul]
 have hge:4294967296 ^ (l.length-1)*1≤4294967296 ^ (l.length-1)*l.getD (l.length-1) 0:=Nat.mul_le_mul_left _ (by omega)
 rw [rJ (k:=32*(l.length-1)) (by rw [hpow];omega),hpow]
 congr 2
 rw [hs,Nat.add_comm,Nat.mul_add_div hp,Nat.div_eq_of_lt ht];rfl
end Go.Lg
namespace Go.Lg
section
variable {a b s x c:Nat}
theorem aLc (hs:s<64) (h:a*2 ^ s<18446744073709551616):shI .shl .u64 (a:Nat) (s:Nat)=some (.int .u64 ((a*2 ^ s:Nat):Int)):=by
 have e:min ((s:Int)).toNat IntKind.u64.bits=s:=by show min s 64=s;omega
 have e2:(a:Int)*2 ^ s=((a*2 ^ s:Nat):Int):=by simp
 simp only [shI]
 rw [if_neg (by omega),e,e2,IntWalk.u64_in _ (by omega)]
theorem aGu {k:IntKind} {m:Nat} (hm:m≤k.bits):shI .shr k (a:Nat) (m:Nat)=some (.int k ((a/2 ^ m:Nat):Int)):=by
 have e:min ((m:Int)).toNat k.bits=m:=by show min m k.bits=m;omega
 simp only [shI]
 rw [if_neg (by omega),e,Int.fdiv_eq_ediv_of_nonneg _ (Int.pow_nonneg (by omega))]
 congr 2
theorem orV (hc:c<2 ^ s) (h:x*2 ^ s+c<18446744073709551616):dU .or .u64 (c:Nat) ((x*2 ^ s:Nat):Int)=some (.int .u64 ((x*2 ^ s+c:Nat):Int)):=by
 have e:(BitVec.ofInt IntKind.u64.bits (c:Int) ||| BitVec.ofInt IntKind.u64.bits ((x*2 ^ s:Nat):Int)).toNat=x*2 ^ s+c:=by
  rw [nY,nY,BitVec.toNat_or,BitVec.toNat_ofNat,BitVec.toNat_ofNat]
  have e1:x*2 ^ s % 2 ^ IntKind.u64.bits=x*2 ^ s:=Nat.mod_eq_of_lt (by show _<18446744073709551616;omega)
  have e2:c % 2 ^ IntKind.u64.bits=c:=Nat.mod_eq_of_lt (by show _<18446744073709551616;omega)
  rw [e1,e2,Nat.or_comm]
  have:=Nat.shiftLeft_add_eq_or_of_lt (i:=s) (b:=c) hc x
  rw [Nat.shiftLeft_eq] at this
  exact this.symm
 simp only [dU,e]
 rw [IntWalk.u64_in _ (by omega)]
theorem tbl {s:ByteArray} (h:(List.range 256).all (fun n=>s[n]?==some (UInt8.ofNat (eC n)))=true) {n:Nat} (hn:n<256):s[n]?=some (UInt8.ofNat (eC n)):=by
 rw [List.all_eq_true] at h
 simpa using h n (by simpa using hn)
end
def g7:Nat→Nat→List Nat
 | 0,_=>[]
 | k+1,m=>m % 4294967296 :: g7 k (m/4294967296)
theorem mS:∀ k m,(g7 k m).length=k
 | 0,_=>rfl
 | k+1,m=>by simp [g7,mS k]
theorem uO:∀ k m,fA (g7 k m)
 | 0,_=>fun x h=>by simp [g7] at h
 | k+1,m=>fun x h=>by
   simp only [g7,List.mem_cons] at h
   rcases h with rfl | h
   ·omega
   ·exact uO k _ x h
theorem uJ:∀ {o:List Nat} {k:Nat},fA o→o.length=k→o=g7 k (val o)
 | [],k,_,h=>by subst h;rfl
 | x :: xs,k,hl,h=>by
   subst h
   have hx:=hl x (by simp)
   have ih:=uJ (o:=xs) (k:=xs.length) (fun y hy=>hl y (by simp [hy])) rfl
   simp only [List.length_cons,g7,val]
   have e1:(x+4294967296*val xs) % 4294967296=x:=by omega
   have e2:(x+4294967296*val xs)/4294967296=val xs:=by omega
   rw [e1,e2,←ih]
theorem wB:∀ {k m:Nat},m<4294967296 ^ k→val (g7 k m)=m
 | 0,m,h=>by simp at h;subst h;rfl
 | k+1,m,h=>by
   simp only [g7,val]
   rw [wB (k:=k) (by rw [Nat.div_lt_iff_lt_mul (by omega)];rwa [Nat.pow_succ] at h)]
   omega
section
variable {P:Program} {ρ:Operand→LV} {α:Type} {e:α→LV}
theorem OpA.lit2 {T E:TypeId} {x y:Operand} {d sz:Nat} {ag:Bool} {z a b:α} (he:EncOK e sz ag) (hT:P.underlying T=some (.slice E)) (hz:bA P E (e z)) (hE:bT P E sz ag) (hx:ρ x=e a) (hy:ρ y=e b) (hs0:0<sz) (hs1:sz≤1000) :
  OpA P ρ d (.buildSlice T 2 #[(0,x),(1,y)]) (.ref d sz 0 2) ⟨sz,[a,b].map e,true⟩:=by
 have:=OpA.lit (P:=P) (ρ:=ρ) (d:=d) (T:=T) (n:=2) (ps:=#[(0,x),(1,y)]) hT hz (by rw [he.isAgg];exact hE) (he.csize z) (by omega) (by omega) hs0 (by
  intro p hp
  simp only [List.mem_cons,List.not_mem_nil,or_false] at hp
  rcases hp with rfl | rfl
  ·refine⟨by simp,?_,by rw [hx];exact LV.pure_ne_any (he.pure _),by rw [hx];exact LV.pure_ne_tup (he.pure _)⟩
   simp [lay,hx,he.csize,he.isAgg]
  ·refine⟨by simp,?_,by rw [hy];exact LV.pure_ne_any (he.pure _),by rw [hy];exact LV.pure_ne_tup (he.pure _)⟩
   simp [lay,hy,he.csize,he.isAgg])
 simpa [eN,hx,hy,List.replicate] using this
end
section
variable {P:Program} {n:Nat} {W w:World} {X:XS} {Z0:Nat→Prop} {L:St} {a:Act} {K:St→Prop} {Q:LEx→St→Prop}
theorem aHl {s0 d1 d2 sz:Nat} {l:List LV} {T E ty ty' U:TypeId} {pos pos':String} {af af':Array Edge} (h0:L.slot s0=.list sz l) (hT:P.underlying T=some (.slice E))
  (hK:∀ b:Bool,(b=true→l=[])→Q .normal ((L.put (some d1) (.list sz l)).put (some d2) (.v (.bool b)))) :
  ∀ n W X Z0 a w,kZ n W X Z0 L a w→fC n (.region 0 [Oper.mk (some d1) (.move (.tmp s0)) ty pos af none,Oper.mk (some d2) (.binOp .eql T (.tmp d1) (.const (.slice none 0 0)) U) ty' pos' af' none].toArray false)=true →
   ∀ id,(Code.region id [Oper.mk (some d1) (.move (.tmp s0)) ty pos af none,Oper.mk (some d2) (.binOp .eql T (.tmp d1) (.const (.slice none 0 0)) U) ty' pos' af' none].toArray false).wp P (wG n W X Z0 Q) a w:=by
 intro n W X Z0 a w hs hd id
 simp only [fC,List.all_cons,List.all_nil,Bool.and_true,Bool.and_eq_true,decide_eq_true_eq] at hd
 refine wp_region_list ?_
 have h1:=hF (P:=P) (dr:=false) (ops:=[Oper.mk (some d1) (.move (.tmp s0)) ty pos af none,Oper.mk (some d2) (.binOp .eql T (.tmp d1) (.const (.slice none 0 0)) U) ty' pos' af' none].toArray)
  (o:=Oper.mk (some d1) (.move (.tmp s0)) ty pos af none) hs (L':=L.put (some d1) (.list sz l))
  (.val (r:=.list sz l) (fr:=[]) (H1:=L.heap) rfl (cM.le_refl _) (fun _ _ h=>by cases h) (.pure (by have:=OpP.move (P:=P) (H:=L.heap) (ρ:=L.ev) (.tmp s0);rwa [show L.ev (.tmp s0)=LV.list sz l from h0] at this)) rfl)
  (fun t ht=>by cases ht;exact hd.1)
  (K:=wpList P [Oper.mk (some d1) (.move (.tmp s0)) ty pos af none,Oper.mk (some d2) (.binOp .eql T (.tmp d1) (.const (.slice none 0 0)) U) ty' pos' af' none].toArray (wG n W X Z0 Q)
   [Oper.mk (some d2) (.binOp .eql T (.tmp d1) (.const (.slice none 0 0)) U) ty' pos' af' none]) (Q:=wG n W X Z0 Q) (fun a' w' hs'=>?_)
 ·unfold wpList
  split
  ·rename_i h;rw [if_pos h] at h1;exact .inl h1
  ·rename_i h;rw [if_neg h] at h1;exact h1
 ·obtain⟨hdf,hsz,μ,Z,hc,hr⟩:=hs'
  have e1:=hr d1
  rw [bU,if_pos rfl] at e1
  have e2:=e1.2 rfl
  simp only [bZ] at e2
  obtain⟨ad,len,cap,q1,q2,q3,q4,q5⟩:=e2
  simp only [List.cons.injEq,and_true] at q1
  have hev:a'.eval (.tmp d1)=.slice ad len cap:=q1
  have hw:Region.wanted (Oper.mk (some d2) (.binOp .eql T (.tmp d1) (.const (.slice none 0 0)) U) ty' pos' af' none) (yielded [Oper.mk (some d1) (.move (.tmp s0)) ty pos af none,Oper.mk (some d2) (.binOp .eql T (.tmp d1) (.const (.slice none 0 0)) U) ty' pos' af' none].toArray a'.tmps)=true:=rfl
  unfold wpList
  rw [if_pos hw]
  left
  have hrun:(execOp a'.eval (Oper.mk (some d2) (.binOp .eql T (.tmp d1) (.const (.slice none 0 0)) U) ty' pos' af' none)).run P w'=.ok (.value (.bool ad.isNone)) w':=by
   have hv:a'.eval (.const (.slice none 0 0))=.slice none 0 0:=rfl
   simp only [execOp,hev,hv]
   simp [eqGuard,binOp,run_equal_slice_nil w' T E ad len cap hT]
  unfold Oper.wp
  rw [hrun,Oper.upon_value]
  refine⟨_,hK ad.isNone ?_,by rw [eG];exact hdf,by rw [fU];exact hsz,μ,Z,by rw [eL];exact hc,gL (fun t ht=>by cases ht;rw [hsz];exact hd.2) hr bP.bool⟩
  intro hb
  rcases q4 with q4 | ⟨blk,off,c,T',fz,part,rest,g1,_⟩
  ·exact q4
  ·rw [g1] at hb;cases hb
end
section
variable {R V p vt v2 vl top u2 rl:Nat}
theorem aKS (hV:V=(vt*4294967296+v2)*p+vl) (hR:R=(top*4294967296+u2)*p+rl) (hrl:rl<p) (hu2:u2<4294967296) (hvt:0<vt):R/V≤top/vt:=by
 rw [Nat.le_div_iff_mul_le hvt]
 have h1:R/V*V≤R:=Nat.div_mul_le_self R V
 have h2:R/V*(vt*4294967296*p)≤R/V*V:=Nat.mul_le_mul_left _ (by rw [hV,Nat.add_mul];omega)
 have h3:R<(top+1)*4294967296*p:=by
  rw [hR]
  have:(top*4294967296+u2+1)*p≤(top+1)*4294967296*p:=Nat.mul_le_mul_right _ (by omega)
  rw [Nat.add_mul _ 1] at this;omega
 have h4:R/V*vt*(4294967296*p)<(top+1)*(4294967296*p):=by
  have e1:R/V*vt*(4294967296*p)=R/V*(vt*4294967296*p):=by simp only [Nat.mul_assoc]
  have e2:(top+1)*(4294967296*p)=(top+1)*4294967296*p:=by simp only [Nat.mul_assoc]
  rw [e1,e2];omega
 exact Nat.le_of_lt_succ (Nat.lt_of_mul_lt_mul_right h4)
theorem aKf {x rest:Nat} (hV:V=(vt*4294967296+v2)*p+vl) (hR:R=(top*4294967296+u2)*p+rl) (hrl:rl<p) (hV0:0<V)
  (hx:x*vt+rest=top) (h:rest*4294967296+u2<x*v2):R/V<x:=by
 rw [Nat.div_lt_iff_lt_mul hV0]
 have h1:x*((vt*4294967296+v2)*p)≤x*V:=Nat.mul_le_mul_left _ (by rw [hV];omega)
 have h2:top*4294967296+u2+1≤x*(vt*4294967296+v2):=by
  rw [←hx,Nat.add_mul,Nat.mul_add,Nat.mul_assoc];omega
 have h3:(top*4294967296+u2+1)*p≤x*(vt*4294967296+v2)*p:=Nat.mul_le_mul_right _ h2
 rw [Nat.add_mul _ 1] at h3
 rw [Nat.mul_assoc] at h3
 omega
theorem aCq {x rest:Nat} (hV:V=(vt*4294967296+v2)*p+vl) (hR:R=(top*4294967296+u2)*p+rl) (hvl:vl<p) (hvt:0<vt) (hV0:0<V)
  (hx:x*vt+rest=top) (hxB:x≤4294967296) (h:x*v2≤rest*4294967296+u2):x≤R/V+1:=by
 cases x with
 | zero=>exact Nat.zero_le _
 | succ y =>
  have:y≤R/V:=by
   rw [Nat.le_div_iff_mul_le hV0]
   have h1:(y+1)*(vt*4294967296+v2)≤top*4294967296+u2:=by
    rw [←hx,Nat.mul_add,Nat.add_mul _ rest,←Nat.mul_assoc];omega
   have h2:(y+1)*(vt*4294967296+v2)*p≤(top*4294967296+u2)*p:=Nat.mul_le_mul_right _ h1
   have h3:y*vl≤y*p:=Nat.mul_le_mul_left _ (Nat.le_of_lt hvl)
   have h4:y*p≤4294967296*p:=Nat.mul_le_mul_right _ (by omega)
   have h5:4294967296*p≤(vt*4294967296+v2)*p:=Nat.mul_le_mul_right _ (by omega)
   have h6:y*V=y*(vt*4294967296+v2)*p+y*vl:=by rw [hV,Nat.mul_add,Nat.mul_assoc]
   have h7:(y+1)*(vt*4294967296+v2)*p=y*(vt*4294967296+v2)*p+(vt*4294967296+v2)*p:=by rw [Nat.add_mul,Nat.add_mul,Nat.one_mul]
   omega
  omega
theorem aLC {un u1:Nat} (hV:V=(vt*4294967296+v2)*p+vl) (hR:R=((un*4294967296+u1)*4294967296+u2)*p+rl) (hvl:vl<p) (hv2:v2<4294967296) (hRV:R<V*4294967296):un≤vt:=by
 apply Classical.byContradiction
 intro h
 have h1:(vt+1)*4294967296≤un*4294967296:=by omega
 have h2:(vt*4294967296+v2+1)*4294967296≤(un*4294967296+u1)*4294967296+u2:=by
  have:(vt*4294967296+v2+1)≤un*4294967296+u1:=by omega
  exact Nat.le_trans (Nat.mul_le_mul_right 4294967296 this) (Nat.le_add_right _ _)
 have h3:(vt*4294967296+v2+1)*4294967296*p≤((un*4294967296+u1)*4294967296+u2)*p:=Nat.mul_le_mul_right _ h2
 have h4:V≤(vt*4294967296+v2+1)*p:=by rw [hV,Nat.add_mul _ 1];omega
 have h5:V*4294967296≤(vt*4294967296+v2+1)*p*4294967296:=Nat.mul_le_mul_right _ h4
 have h6:(vt*4294967296+v2+1)*p*4294967296=(vt*4294967296+v2+1)*4294967296*p:=by rw [Nat.mul_right_comm]
 omega
theorem aBA {x rest un u1:Nat} (hx:x*vt+rest=un*4294967296+u1) (hun:un≤vt) (hu1:u1<4294967296) (hv2:v2<4294967296) (hr:4294967296≤rest):x<4294967296∧x*v2≤rest*4294967296+u2:=by
 have hxl:x<4294967296:=by
  apply Classical.byContradiction
  intro h
  have h1:4294967296*vt≤x*vt:=Nat.mul_le_mul_right vt (by omega)
  omega
 refine⟨hxl,?_⟩
 have h1:x*v2≤4294967296*4294967296:=Nat.mul_le_mul (Nat.le_of_lt hxl) (Nat.le_of_lt hv2)
 have h2:4294967296*4294967296≤rest*4294967296:=Nat.mul_le_mul_right _ hr
 omega
end
theorem aAQ {l:List Nat} {k:Nat} (h:val l<4294967296 ^ k):∀ p,k≤p→l.getD p 0=0:=fun p hp=>by
 apply Classical.byContradiction
 intro h0
 have hlt:p<l.length:=by
  apply Classical.byContradiction
  intro hh
  exact h0 (iF l p (by omega))
 have h1:=fR l p (by omega)
 rw [eW hlt] at h1
 have h2:4294967296 ^ k≤4294967296 ^ p:=Nat.pow_le_pow_right (by omega) hp
 have h3:4294967296 ^ p*1≤4294967296 ^ p*(l.getD p 0+4294967296*val (l.drop (p+1))):=Nat.mul_le_mul_left _ (by omega)
 omega
theorem jI:∀ {l:List Nat},(∀ p,l.getD p 0=0)→val l=0
 | [],_=>rfl
 | x :: xs,h=>by
   have h0:x=0:=by simpa using h 0
   have:=jI (l:=xs) (fun p=>by simpa using h (p+1))
   simp [val,h0,this]
theorem mM (l:List Nat) (k p:Nat):(l.drop k).getD p 0=l.getD (k+p) 0:=by
 rw [List.getD_eq_getElem?_getD,List.getD_eq_getElem?_getD,List.getElem?_drop]
theorem tM {l:List Nat} {k:Nat} (hl:fA l) (h:∀ p,k≤p→l.getD p 0=0):val l<4294967296 ^ k:=by
 by_cases hk:k≤l.length
 ·rw [fR l k hk,jI (l:=l.drop k) (fun p=>by rw [mM];exact h _ (by omega)),Nat.mul_zero,Nat.add_zero]
  exact eY (iB hl k) (by simp;omega)
 ·exact eY hl (by omega)
theorem aEq {l:List Nat} {k:Nat} (hk:k+2<l.length) (hz:∀ p,k+3≤p→l.getD p 0=0) :
  val l=((l.getD (k+2) 0*4294967296+l.getD (k+1) 0)*4294967296+l.getD k 0)*4294967296 ^ k+val (l.take k):=by
 have h3:val (l.drop (k+2+1))=0:=jI (fun p=>by rw [mM];exact hz _ (by omega))
 rw [fR l k (by omega),eW (by omega),eW (k:=k+1) (by omega),eW (k:=k+1+1) (by omega),h3,Nat.mul_comm (4294967296 ^ k),Nat.add_comm,show k+1+1=k+2 from rfl]
 congr 2
 omega
theorem aAn {l:List Nat} {k:Nat} (hk:k+2=l.length):val l=(l.getD (k+1) 0*4294967296+l.getD k 0)*4294967296 ^ k+val (l.take k):=by
 have h3:val (l.drop (k+1+1))=0:=by rw [List.drop_of_length_le (by omega)];rfl
 rw [fR l k (by omega),eW (by omega),eW (k:=k+1) (by omega),h3,Nat.mul_comm (4294967296 ^ k),Nat.add_comm]
 congr 2
 omega
theorem aJ5 {i j c br x:Nat} {v ul:List Nat} {v0:Nat} (hul:i+j<ul.length) (hlu:fA ul) (hbr:br≤1)
  (hv:val ul+4294967296 ^ j*(x*val (v.take i))=v0+4294967296 ^ (i+j)*(c+br)) {c1 d:Nat} (hc1:c1=c+x*v.getD i 0)
  (hd:d=(18446744073709551616+(18446744073709551616+ul.getD (i+j) 0-c1 % 4294967296) % 18446744073709551616-br) % 18446744073709551616) :
  d/9223372036854775808≤1∧fA (ul.set (i+j) (d % 4294967296)) ∧
   val (ul.set (i+j) (d % 4294967296))+4294967296 ^ j*(x*val (v.take (i+1)))=v0+4294967296 ^ (i+1+j)*(c1/4294967296+d/9223372036854775808):=by
 have hu:=cL hlu (i+j)
 refine⟨by omega,eM hlu _ _ (by omega),?_⟩
 have h1:=o8 (x:=d % 4294967296) hul
 have h2:d % 4294967296+c1 % 4294967296+br=ul.getD (i+j) 0+4294967296*(d/9223372036854775808):=by omega
 have h3:4294967296 ^ (i+j)*(d % 4294967296)+4294967296 ^ (i+j)*(c1 % 4294967296)+4294967296 ^ (i+j)*br=4294967296 ^ (i+j)*ul.getD (i+j) 0+4294967296 ^ (i+j)*4294967296*(d/9223372036854775808):=by
  rw [←Nat.mul_add,←Nat.mul_add,h2,Nat.mul_add,Nat.mul_assoc]
 have h4:=iW (4294967296 ^ (i+j)) c1
 have h5:4294967296 ^ (i+j)*c1=4294967296 ^ (i+j)*c+4294967296 ^ j*(x*(4294967296 ^ i*v.getD i 0)):=by
  rw [hc1,Nat.mul_add,Nat.pow_add]
  congr 1
  simp only [Nat.mul_assoc,Nat.mul_left_comm,Nat.mul_comm]
 have h6:4294967296 ^ (i+1+j)=4294967296 ^ (i+j)*4294967296:=by rw [Nat.add_right_comm,Nat.pow_succ]
 rw [cI,Nat.mul_add x,Nat.mul_add,h6,Nat.mul_add]
 rw [Nat.mul_add] at hv
 omega
theorem aDo {j n c br x t:Nat} {ul:List Nat} {V v0:Nat} (hul:n+j<ul.length) (hlu:fA ul) (hbr:br≤1) (hc:c<4294967296)
  (hv:val ul+4294967296 ^ j*(x*V)=v0+4294967296 ^ (n+j)*(c+br)) (ht:t=ul.getD (n+j) 0) {d:Nat}
  (hd:d=(18446744073709551616+(18446744073709551616+t-c) % 18446744073709551616-br) % 18446744073709551616) :
  fA (ul.set (n+j) (d % 4294967296))∧d/9223372036854775808≤1 ∧
   val (ul.set (n+j) (d % 4294967296))+4294967296 ^ j*(x*V)=v0+4294967296 ^ (n+j+1)*(d/9223372036854775808):=by
 have hu:=cL hlu (n+j)
 refine⟨eM hlu _ _ (by omega),by omega,?_⟩
 have h1:=o8 (x:=d % 4294967296) hul
 have h2:d % 4294967296+c+br=t+4294967296*(d/9223372036854775808):=by omega
 have h3:4294967296 ^ (n+j)*(d % 4294967296)+4294967296 ^ (n+j)*c+4294967296 ^ (n+j)*br=4294967296 ^ (n+j)*t+4294967296 ^ (n+j)*4294967296*(d/9223372036854775808):=by
  rw [←Nat.mul_add,←Nat.mul_add,h2,Nat.mul_add,Nat.mul_assoc]
 rw [Nat.pow_succ]
 rw [Nat.mul_add] at hv
 rw [←ht] at h1
 omega
theorem aKu {i j c:Nat} {v ul:List Nat} {v0:Nat} (hul:i+j<ul.length) (hlu:fA ul) (hv:val ul+4294967296 ^ (i+j)*c=v0+4294967296 ^ j*val (v.take i)) {s:Nat} (hs:s=c+(ul.getD (i+j) 0+v.getD i 0)) :
  fA (ul.set (i+j) (s % 4294967296))∧val (ul.set (i+j) (s % 4294967296))+4294967296 ^ (i+1+j)*(s/4294967296)=v0+4294967296 ^ j*val (v.take (i+1)):=by
 refine⟨eM hlu _ _ (by omega),?_⟩
 have h1:=o8 (x:=s % 4294967296) hul
 have h2:=iW (4294967296 ^ (i+j)) s
 have h3:4294967296 ^ (i+j)*s=4294967296 ^ (i+j)*c+4294967296 ^ (i+j)*ul.getD (i+j) 0+4294967296 ^ j*(4294967296 ^ i*v.getD i 0):=by
  rw [hs,Nat.mul_add,Nat.mul_add,Nat.pow_add]
  simp only [Nat.mul_assoc,Nat.mul_left_comm,Nat.mul_comm]
  omega
 have h6:4294967296 ^ (i+1+j)=4294967296 ^ (i+j)*4294967296:=by rw [Nat.add_right_comm,Nat.pow_succ]
 rw [cI,Nat.mul_add,h6]
 omega
end Go.Lg
namespace Go.Lg
theorem jZ (k:Nat):0<4294967296 ^ k:=Nat.pow_pos (by omega)
theorem tZ {ul:List Nat} {V n j:Nat} (hVn:V<4294967296 ^ n) (hlt:val ul<V*4294967296 ^ (j+1)):∀ p,n+j+1≤p→ul.getD p 0=0:=by
 apply aAQ
 have h1:V*4294967296 ^ (j+1)≤4294967296 ^ n*4294967296 ^ (j+1):=Nat.mul_le_mul_right _ (Nat.le_of_lt hVn)
 rw [←Nat.pow_add] at h1
 exact Nat.lt_of_lt_of_le hlt h1
theorem aB6 {ul:List Nat} {V n j:Nat} (hn:(aZ V).length=n+2) (hul:n+2+j<ul.length) (hlu:fA ul) (hlt:val ul<V*4294967296 ^ (j+1)) :
  ∃ vl rl,vl<4294967296 ^ n∧rl<4294967296 ^ n∧V=((aZ V).getD (n+1) 0*4294967296+(aZ V).getD n 0)*4294967296 ^ n+vl ∧
   val ul/4294967296 ^ j=((ul.getD (n+2+j) 0*4294967296+ul.getD (n+1+j) 0)*4294967296+ul.getD (n+j) 0)*4294967296 ^ n+rl ∧
   val ul/4294967296 ^ j<V*4294967296:=by
 have hVn:V<4294967296 ^ (n+2):=dO (by omega)
 have hz:=tZ hVn hlt
 have h1:=aAn (l:=aZ V) (k:=n) (by omega)
 have h2:=aEq (l:=ul) (k:=n+j) (by omega) (fun p hp=>hz p (by omega))
 rw [aX] at h1
 refine⟨val ((aZ V).take n),val (ul.take (n+j))/4294967296 ^ j,eY (iB (aW V) _) (by simp;omega),?_,h1,?_,?_⟩
 ·rw [Nat.div_lt_iff_lt_mul (jZ j),←Nat.pow_add]
  exact eY (iB hlu _) (by simp;omega)
 ·have e1:n+j+2=n+2+j:=by omega
  have e2:n+j+1=n+1+j:=by omega
  rw [e1,e2] at h2
  rw [h2,Nat.pow_add,←Nat.mul_assoc,Nat.add_comm,Nat.add_mul_div_right _ _ (jZ j),Nat.add_comm]
 ·rw [Nat.div_lt_iff_lt_mul (jZ j)]
  rw [Nat.pow_succ] at hlt
  have e:V*4294967296*4294967296 ^ j=V*(4294967296 ^ j*4294967296):=by rw [Nat.mul_assoc,Nat.mul_comm 4294967296]
  rw [e];exact hlt
section
variable {ul ul0:List Nat} {V n j x:Nat}
theorem aLn (h:val ul+4294967296 ^ j*(x*V)=val ul0) (hV:0<V):x≤val ul0/4294967296 ^ j/V:=by
 rw [Nat.le_div_iff_mul_le hV,Nat.le_div_iff_mul_le (jZ j),Nat.mul_comm _ (4294967296 ^ j)]
 omega
theorem aLy (h:val ul+4294967296 ^ j*(x*V)=val ul0+4294967296 ^ (n+j+1)) (hlt:val ul<4294967296 ^ (n+j+1)) (hV:0<V):val ul0/4294967296 ^ j/V<x:=by
 rw [Nat.div_lt_iff_lt_mul hV,Nat.div_lt_iff_lt_mul (jZ j),Nat.mul_comm _ (4294967296 ^ j)]
 omega
theorem aIh {ul3:List Nat} {c:Nat} (hx:0<x) (hxV:4294967296 ^ j*((x-1)*V)≤val ul0) (h:val ul+4294967296 ^ j*(x*V)=val ul0+4294967296 ^ (n+j+1)) (hul:n+j<ul3.length) (hl3:fA ul3) (hz:∀ p,n+j+1≤p→ul3.getD p 0=0)
  (hc:c≤1) (h3:val ul3+4294967296 ^ (n+j)*c=val ul+4294967296 ^ j*V) {t:Nat} (ht:t=ul3.getD (n+j) 0) :
  fA (ul3.set (n+j) ((t+c) % 4294967296))∧val (ul3.set (n+j) ((t+c) % 4294967296))+4294967296 ^ j*((x-1)*V)=val ul0:=by
 have hs:=fR ul3 (n+j) (by omega)
 rw [eW hul,jI (l:=ul3.drop (n+j+1)) (fun p=>by rw [mM];exact hz _ (by omega)),Nat.mul_zero,Nat.add_zero,←ht] at hs
 have hlow:val (ul3.take (n+j))<4294967296 ^ (n+j):=eY (iB hl3 _) (by simp;omega)
 have htl:=cL hl3 (n+j)
 rw [←ht] at htl
 obtain⟨y,rfl⟩:∃ y,x=y+1:=⟨x-1,by omega⟩
 rw [Nat.add_sub_cancel] at *
 have e1:4294967296 ^ j*((y+1)*V)=4294967296 ^ j*(y*V)+4294967296 ^ j*V:=by rw [Nat.add_mul,Nat.one_mul,Nat.mul_add]
 rw [e1] at h
 have h4:val (ul3.take (n+j))+4294967296 ^ (n+j)*(t+c)=(val ul0-4294967296 ^ j*(y*V))+4294967296 ^ (n+j)*4294967296:=by
  rw [Nat.mul_add,←Nat.pow_succ];omega
 have h5:4294967296≤t+c:=by
  apply Classical.byContradiction
  intro hh
  have:4294967296 ^ (n+j)*(t+c+1)≤4294967296 ^ (n+j)*4294967296:=Nat.mul_le_mul_left _ (by omega)
  rw [Nat.mul_add _ (t+c)] at this
  omega
 have h6:t+c=4294967296:=by omega
 rw [h6] at h4 ⊢
 refine⟨eM hl3 _ _ (by omega),?_⟩
 have h7:=o8 (x:=4294967296 % 4294967296) hul
 rw [←ht,Nat.mod_self,Nat.mul_zero,Nat.add_zero] at h7
 rw [Nat.mod_self]
 omega
theorem aDa {ql:List Nat} {U0:Nat} (hV:0<V) (hx:x=val ul0/4294967296 ^ j/V) (h:val ul+4294967296 ^ j*(x*V)=val ul0) (hj:j<ql.length)
  (hv:val ul0+V*4294967296 ^ (j+1)*val (ql.drop (j+1))=U0) :
  val ul+V*4294967296 ^ j*val ((ql.set j x).drop j)=U0∧val ul<V*4294967296 ^ j:=by
 constructor
 ·rw [pT hj,←hv,←h,Nat.mul_add]
  have e1:V*4294967296 ^ j*x=4294967296 ^ j*(x*V):=by simp only [Nat.mul_assoc,Nat.mul_left_comm,Nat.mul_comm]
  have e2:V*4294967296 ^ j*(4294967296*val (ql.drop (j+1)))=V*4294967296 ^ (j+1)*val (ql.drop (j+1)):=by
   rw [Nat.pow_succ];simp only [Nat.mul_assoc]
  rw [e1,e2];omega
 ·have h1:val ul0/4294967296 ^ j<(x+1)*V:=by
   rw [←Nat.div_lt_iff_lt_mul hV,hx];omega
  rw [Nat.div_lt_iff_lt_mul (jZ j)] at h1
  have e:(x+1)*V*4294967296 ^ j=4294967296 ^ j*(x*V)+V*4294967296 ^ j:=by
   rw [Nat.add_mul,Nat.add_mul,Nat.one_mul,Nat.mul_comm (x*V)]
  rw [e] at h1;omega
end
theorem aD1 {s:Nat} (hs:s<32):2 ^ s≤2147483648:=Nat.pow_le_pow_right (n:=2) (by omega) (show s≤31 by omega)
theorem aFV {top:Nat} (h0:0<top) (h:top<4294967296):2147483648≤top*2 ^ (32-eC top)∧top*2 ^ (32-eC top)<4294967296:=by
 have h1:eC top≤32:=iS.2 h
 have h2:1≤eC top:=by
  rcases Nat.eq_zero_or_pos (eC top) with e | e
  ·exact absurd (gH.1 e) (by omega)
  ·exact e
 have h3:2 ^ (eC top-1)≤top:=zL.1 (by omega)
 have h4:top<2 ^ eC top:=iS.1 (Nat.le_refl _)
 constructor
 ·have:=Nat.mul_le_mul_right (2 ^ (32-eC top)) h3
  rw [←Nat.pow_add,show eC top-1+(32-eC top)=31 by omega] at this
  exact this
 ·have:=Nat.mul_lt_mul_of_pos_right h4 (Nat.pow_pos (n:=32-eC top) (show 0<2 by omega))
  rw [←Nat.pow_add,show eC top+(32-eC top)=32 by omega] at this
  exact this
theorem aDm {Bv n s:Nat} (hn:(aZ Bv).length=n+1) (hs:s=32-eC ((aZ Bv).getD n 0)):s<32∧(aZ (Bv*2 ^ s)).length=n+1∧2147483648*4294967296 ^ n≤Bv*2 ^ s∧Bv*2 ^ s<4294967296 ^ (n+1):=by
 have hne:=kG (rD Bv) (by omega:0<(aZ Bv).length)
 rw [hn,Nat.add_sub_cancel] at hne
 have hlim:=bM Bv n
 obtain⟨h1,h2⟩:=aFV (Nat.pos_of_ne_zero hne) hlim
 rw [←hs] at h1 h2
 have hv:Bv=4294967296 ^ n*(aZ Bv).getD n 0+val ((aZ Bv).take n):=by
  have:=fR (aZ Bv) n (by omega)
  rw [eW (by omega),show (aZ Bv).drop (n+1)=[] from List.drop_of_length_le (by omega),aX] at this
  simp only [val,Nat.mul_zero,Nat.add_zero] at this
  omega
 have hlow:val ((aZ Bv).take n)<4294967296 ^ n:=eY (iB (aW Bv) _) (by simp;omega)
 have hge:2147483648*4294967296 ^ n≤Bv*2 ^ s:=by
  have:=Nat.mul_le_mul_left (4294967296 ^ n) h1
  have e:4294967296 ^ n*((aZ Bv).getD n 0*2 ^ s)≤Bv*2 ^ s:=by
   rw [←Nat.mul_assoc];exact Nat.mul_le_mul_right _ (by omega)
  rw [Nat.mul_comm] at this;omega
 have hlt:Bv*2 ^ s<4294967296 ^ (n+1):=by
  have hp:0<2 ^ s:=Nat.pow_pos (by omega)
  have e1:Bv<4294967296 ^ n*((aZ Bv).getD n 0+1):=by rw [Nat.mul_add];omega
  have e2:=Nat.mul_lt_mul_of_pos_right e1 hp
  have e3:(aZ Bv).getD n 0*2 ^ s+2 ^ s≤4294967296:=by
   have hs32:s≤32:=by omega
   have hd:4294967296=2 ^ (32-s)*2 ^ s:=by rw [←Nat.pow_add,show 32-s+s=32 by omega]
   rw [hd] at h2 ⊢
   have:=Nat.lt_of_mul_lt_mul_right h2
   have:=Nat.mul_le_mul_right (2 ^ s) this
   rw [Nat.succ_mul] at this
   exact this
  rw [Nat.mul_assoc,Nat.add_mul,Nat.one_mul] at e2
  have e4:=Nat.mul_le_mul_left (4294967296 ^ n) e3
  rw [Nat.pow_succ];omega
 refine⟨?_,?_,hge,hlt⟩
 ·rcases Nat.eq_zero_or_pos (eC ((aZ Bv).getD n 0)) with e | e
  ·exact absurd (gH.1 e) hne
  ·omega
 ·have h3:=eO hlt
  have h4:n<(aZ (Bv*2 ^ s)).length:=by
   apply Classical.byContradiction
   intro hh
   have:=dO (n:=Bv*2 ^ s) (k:=n) (by omega)
   have:=Nat.mul_le_mul_right (4294967296 ^ n) (show 1≤2147483648 by omega)
   omega
  omega
theorem aI7 {V n:Nat} (hn:(aZ V).length=n+1) (hge:2147483648*4294967296 ^ n≤V):2147483648≤(aZ V).getD n 0:=by
 have hv:=fR (aZ V) n (by omega)
 rw [eW (by omega),show (aZ V).drop (n+1)=[] from List.drop_of_length_le (by omega),aX] at hv
 simp only [val,Nat.mul_zero,Nat.add_zero] at hv
 have hlow:val ((aZ V).take n)<4294967296 ^ n:=eY (iB (aW V) _) (by simp;omega)
 apply Classical.byContradiction
 intro hh
 have:=Nat.mul_le_mul_left (4294967296 ^ n) (show (aZ V).getD n 0+1≤2147483648 by omega)
 rw [Nat.mul_add,Nat.mul_comm _ 2147483648] at this
 omega
theorem aEP {A Bv s n m:Nat} (hs:s<32) (hm:(aZ A).length=m) (hnm:n+1≤m) (hge:2147483648*4294967296 ^ n≤Bv*2 ^ s):A*2 ^ s<Bv*2 ^ s*4294967296 ^ (m+1-(n+1))∧A*2 ^ s<4294967296 ^ (m+1):=by
 have hA:A<4294967296 ^ m:=dO (by omega)
 have hp:=aD1 hs
 have h1:A*2 ^ s<4294967296 ^ m*2147483648:=Nat.lt_of_lt_of_le (Nat.mul_lt_mul_of_pos_right hA (Nat.pow_pos (by omega))) (Nat.mul_le_mul_left _ hp)
 constructor
 ·have h2:=Nat.mul_le_mul_right (4294967296 ^ (m+1-(n+1))) hge
  rw [Nat.mul_assoc,←Nat.pow_add,show n+(m+1-(n+1))=m by omega] at h2
  omega
 ·rw [Nat.pow_succ];exact Nat.lt_trans h1 (Nat.mul_lt_mul_of_pos_left (by omega) (jZ m))
theorem aGd {A Bv s:Nat} {ul ql:List Nat} (hB:0<Bv) (h:val ul+Bv*2 ^ s*val ql=A*2 ^ s) (hlt:val ul<Bv*2 ^ s):val ql=A/Bv∧val ul=A % Bv*2 ^ s:=by
 have hp:0<2 ^ s:=Nat.pow_pos (by omega)
 have h1:val ul=A*2 ^ s % (Bv*2 ^ s):=by
  rw [←h,Nat.add_mul_mod_self_left,Nat.mod_eq_of_lt hlt]
 have h2:val ql=A*2 ^ s/(Bv*2 ^ s):=by
  rw [←h,Nat.add_mul_div_left _ _ (by exact Nat.mul_pos hB hp),Nat.div_eq_of_lt hlt,Nat.zero_add]
 rw [Nat.mul_mod_mul_right] at h1
 rw [Nat.mul_div_mul_right _ _ hp] at h2
 exact⟨h2,h1⟩
theorem aCj {i s:Nat} {w o:List Nat} (hi:i<w.length) (hs:s<32) (hd:w.getD i 0=o.getD i 0) (hv:2 ^ s*val (w.take i)=val (o.take i)+4294967296 ^ i*(o.getD i 0 % 2 ^ s)) {y:Nat} (hy:y=o.getD i 0/2 ^ s+o.getD (i+1) 0 % 2 ^ s*2 ^ (32-s)) :
  2 ^ s*val ((w.set i y).take (i+1))=val (o.take (i+1))+4294967296 ^ (i+1)*(o.getD (i+1) 0 % 2 ^ s):=by
 rw [f3 _ _ _ hi,cI o,Nat.mul_add,hv,Nat.pow_succ]
 have h1:=Nat.div_add_mod (o.getD i 0) (2 ^ s)
 have h2:2 ^ s*(o.getD (i+1) 0 % 2 ^ s*2 ^ (32-s))=4294967296*(o.getD (i+1) 0 % 2 ^ s):=by
  rw [Nat.mul_left_comm,←Nat.pow_add,show s+(32-s)=32 by omega,Nat.mul_comm]
 have h3:2 ^ s*(4294967296 ^ i*y)=4294967296 ^ i*(2 ^ s*(o.getD i 0/2 ^ s))+4294967296 ^ i*4294967296*(o.getD (i+1) 0 % 2 ^ s):=by
  rw [Nat.mul_left_comm,hy,Nat.mul_add,h2,Nat.mul_add,Nat.mul_assoc]
 have h4:4294967296 ^ i*o.getD i 0=4294967296 ^ i*(2 ^ s*(o.getD i 0/2 ^ s))+4294967296 ^ i*(o.getD i 0 % 2 ^ s):=by rw [←Nat.mul_add,h1]
 omega
section
variable {a b s x c:Nat}
theorem aN0:dU .and .u64 (a:Nat) 4294967295=some (.int .u64 ((a % 4294967296:Nat):Int)):=by
 have e:(BitVec.ofInt IntKind.u64.bits (a:Int) &&& BitVec.ofInt IntKind.u64.bits (4294967295:Int)).toNat=a % 4294967296:=by
  have h1:(4294967295:Int)=((4294967295:Nat):Int):=rfl
  rw [h1,nY,nY,BitVec.toNat_and,BitVec.toNat_ofNat,BitVec.toNat_ofNat]
  have h2:4294967295 % 2 ^ IntKind.u64.bits=2 ^ 32-1:=rfl
  rw [h2,Nat.and_two_pow_sub_one_eq_mod]
  show a % 18446744073709551616 % 4294967296=a % 4294967296
  omega
 simp only [dU,e]
 rw [IntWalk.u64_in _ (by omega)]
theorem aJJ:dU .add .u32 (a:Nat) (b:Nat)=some (.int .u32 (((a+b) % 4294967296:Nat):Int)):=by
 simp only [dU];rw [IntKind.wrap_u32];congr 2
theorem aJY (hs:s≤32):shI .shl .u32 (a:Nat) ((s:Nat):Int)=some (.int .u32 ((a % 2 ^ (32-s)*2 ^ s:Nat):Int)):=by
 have e:min ((s:Int)).toNat IntKind.u32.bits=s:=by show min s 32=s;omega
 have e2:(a:Int)*2 ^ s=((a*2 ^ s:Nat):Int):=by simp
 simp only [shI]
 rw [if_neg (by omega),e,e2,aGG]
 congr 3
 have:4294967296=2 ^ (32-s)*2 ^ s:=by rw [←Nat.pow_add,show 32-s+s=32 by omega]
 rw [this,Nat.mul_mod_mul_right]
theorem aLO (hc:c<2 ^ s) (h:x*2 ^ s+c<4294967296):dU .or .u32 (c:Nat) ((x*2 ^ s:Nat):Int)=some (.int .u32 ((x*2 ^ s+c:Nat):Int)):=by
 have e:(BitVec.ofInt IntKind.u32.bits (c:Int) ||| BitVec.ofInt IntKind.u32.bits ((x*2 ^ s:Nat):Int)).toNat=x*2 ^ s+c:=by
  rw [nY,nY,BitVec.toNat_or,BitVec.toNat_ofNat,BitVec.toNat_ofNat]
  have e1:x*2 ^ s % 2 ^ IntKind.u32.bits=x*2 ^ s:=Nat.mod_eq_of_lt (by show _<4294967296;omega)
  have e2:c % 2 ^ IntKind.u32.bits=c:=Nat.mod_eq_of_lt (by show _<4294967296;omega)
  rw [e1,e2,Nat.or_comm]
  have:=Nat.shiftLeft_add_eq_or_of_lt (i:=s) (b:=c) hc x
  rw [Nat.shiftLeft_eq] at this
  exact this.symm
 simp only [dU,e]
 rw [IntWalk.u32_in _ (by omega)]
theorem z5 {s y z:Nat} (hs:s≤32) (hy:y<4294967296):y/2 ^ s<2 ^ (32-s)∧z % 2 ^ s*2 ^ (32-s)+y/2 ^ s<4294967296:=by
 have hd:4294967296=2 ^ (32-s)*2 ^ s:=by rw [←Nat.pow_add,show 32-s+s=32 by omega]
 have hp:0<2 ^ s:=Nat.pow_pos (by omega)
 have h1:y/2 ^ s<2 ^ (32-s):=by rw [Nat.div_lt_iff_lt_mul hp];omega
 refine⟨h1,?_⟩
 have h2:=Nat.mod_lt z hp
 have h3:(z % 2 ^ s+1)*2 ^ (32-s)≤2 ^ s*2 ^ (32-s):=Nat.mul_le_mul_right _ h2
 rw [Nat.add_mul,Nat.one_mul,Nat.mul_comm (2 ^ s)] at h3
 omega
end
theorem pZ:∀ {l:List Nat},val l=0→∀ p,l.getD p 0=0
 | [],_,p=>by simp
 | x :: xs,h,p=>by
   simp only [val] at h
   have h1:x=0:=by omega
   have h2:val xs=0:=by omega
   cases p with
   | zero=>simpa using h1
   | succ p=>simpa using pZ h2 p
theorem aDT {l:List Nat} {n:Nat} (hn:n=l.length):∀ p,fJ n l≤p→l.getD p 0=0:=fun p hp=>by
 subst hn
 have h1:=(nI l.length l (Nat.le_refl _)).2
 rw [List.take_length] at h1
 have h2:=fR l (fJ l.length l) (vE _ _)
 rw [h1] at h2
 have h3:val (l.drop (fJ l.length l))=0:=by
  rcases Nat.eq_zero_or_pos (val (l.drop (fJ l.length l))) with e | e
  ·exact e
  ·have:=Nat.mul_pos (jZ (fJ l.length l)) e;omega
 have h4:=pZ h3 (p-fJ l.length l)
 rwa [mM,show fJ l.length l+(p-fJ l.length l)=p by omega] at h4
theorem aBk {l:List Nat} {r s:Nat} (hs:s≤32) (h:val l=r*2 ^ s):l.getD 0 0 % 2 ^ s=0:=by
 cases l with
 | nil=>simp
 | cons x xs =>
  simp only [val] at h
  have hd:4294967296=2 ^ (32-s)*2 ^ s:=by rw [←Nat.pow_add,show 32-s+s=32 by omega]
  have h1:(x+4294967296*val xs) % 2 ^ s=0:=by rw [h,Nat.mul_mod_left]
  rw [hd,Nat.mul_right_comm,Nat.add_mul_mod_self_right] at h1
  simpa using h1
theorem t0:(0:Int).toNat=0:=rfl
theorem aIn {x:Nat} (h:x<4294967296):fA [x]:=fun y hy=>by simp at hy;omega
def v6:List Nat→Code→Option Code
 | [],c=>some c
 | i :: p,.seq x y=>if i=0 then v6 p x else v6 p y
 | i :: p,.cond _ x y=>if i=0 then v6 p x else v6 p y
 | _ :: p,.block _ c=>v6 p c
 | _ :: p,.loop c=>v6 p c
 | _,_=>none
def aCy (fn:Func) (p:List Nat):Option Code:=fn.body.bind (v6 p)
section
variable {P:Program} {Q:LEx→St→Prop} {L L':St}
theorem wL {fn:Func} {p:List Nat} {c:Code} (h:aCy fn p=some c) (k:wpL P c Q L):wpL P ((aCy fn p).getD .skip) Q L:=by rw [h];exact k
end
theorem vD {P:Program} {Q:LEx→St→Prop} {L:St} {c:Code} {S:St→St} (h:S L=L) (k:wpL P c Q (S L)):wpL P c Q L:=by rw [←h];exact k
theorem lV {Q:LEx→St→Prop} {S L:St} (k:Q .normal S) (h:S=L):Q .normal L:=h ▸ k
end Go.Lg
namespace Go.Lg
theorem hce:(∀ (p:Prop) [Decidable p],(decide p=true)=p)∧(∀ (p:Prop) [Decidable p],(decide p=false)=¬ p)∧(∀ {α:Type} [BEq α] [LawfulBEq α] {a b:α},((a==b)=true)=(a=b))
  ∧ (∀ {α:Type} [BEq α] [LawfulBEq α] {a b:α},((a==b)=false)=¬ (a=b))∧(∀ {α:Type} [BEq α] [LawfulBEq α] {a b:α},((a != b)=true)=¬ (a=b))∧(∀ {α:Type} [BEq α] [LawfulBEq α] {a b:α},((a != b)=false)=(a=b))
  ∧ (∀ (b:Bool),(¬ (b=true))=(b=false))∧(∀ (b:Bool),((!b)=true)=(b=false))∧(∀ (b:Bool),((!b)=false)=(b=true))∧(∀ (a b:Bool),(a=!b)=¬ (a=b))∧(!true)=false∧(!false)=true :=
 ⟨fun _=>by simp,fun _=>by simp,by intros;simp,by intros;simp,by intros;simp,by intros;simp,by simp,by simp,by simp,fun a b=>by cases a<;>cases b<;>simp,rfl,rfl⟩
theorem tm0 {p:Prop} (h:p:=by first | exact aD6 rfl | exact aD6 (bF _) | exact aD6 (aR _) | exact aD6 (aD.pure _) | exact aD6 (d8.pure _) | exact aD6 (aJ aD _ _) | exact gU (bF _) rfl | exact gU (aR _) rfl | exact gU (aD.pure _) rfl | exact gU (aR _) (aR _) | exact aFL (aR _) (aR _) rfl | exact gU rfl rfl | exact aFL rfl rfl rfl | exact gU (aJ aD _ _) (aJ aD _ _) | exact gU (aJ aD _ _) rfl):p:=h
theorem imZ {H:cM}:Imm H (.agg [.v (.bool false),.list 1 [],.list 1 []]) (ratL 0):=fD ▸ .pure (aD.pure 0)
theorem nJ {p:Prop} (h:p:=by first | exact .pure rfl | exact .pure (aJ cV _ _) | exact .pure (aR _) | exact .pure (aD.pure _) | exact .pure (d8.pure _) | exact imZ | exact .pure (aJ aD _ _) | exact .pure (bF _) | exact .nil _ | exact .pure (aJ mK _ _) | exact .pure (aJ d8 _ _) | exact .pure (cW.pure ⟨_,_,_⟩) | exact .pure (dR.pure _) | exact .pure (aJ cW _ _) | exact .pure (aJ dR _ _) | exact .pure (by assumption) | exact .pure pu):p:=h
theorem im1 {p:Prop} (h:p:=by first | exact .pure rfl | exact .pure (aJ cV _ _) | exact .pure (aR _) | exact .pure (aD.pure _) | exact .pure (d8.pure _) | exact .pure (aJ aD _ _) | exact .pure (bF _) | exact .nil _ | exact .pure (aJ mK _ _) | exact .pure (aJ d8 _ _) | exact .pure (by assumption) | exact cC cV rfl rfl (by first | rfl | omega | exact(mS _ _).symm | (simp;done) | (simp;omega)) | exact cC aD rfl rfl (by first | rfl | omega | exact(mS _ _).symm | (simp;done) | (simp;omega)) | exact aBg cV rfl rfl (by first | omega | (simp;omega)) | exact aBg aD rfl rfl (by first | omega | (simp;omega))):p:=h
theorem nt0 {p:Prop} (h:p:=by first | (simp;done) | exact(fun m h=>LV.noConfusion h) | exact LV.pure_ne_tup (aR _) | exact LV.pure_ne_tup (aD.pure _) | exact LV.pure_ne_tup (d8.pure _) | exact LV.pure_ne_tup (bF _) | exact LV.pure_ne_tup (aJ aD _ _) | exact LV.pure_ne_tup (by assumption)):p:=h
theorem t8 {p:Prop} (h:p:=by first | exact⟨(fun h=>by cases h),(fun _ h=>by cases h)⟩ | exact⟨LV.pure_ne_any (aD.pure _),LV.pure_ne_tup (aD.pure _)⟩ | exact⟨LV.pure_ne_any (d8.pure _),LV.pure_ne_tup (d8.pure _)⟩ | exact⟨LV.pure_ne_any (cW.pure _),LV.pure_ne_tup (cW.pure _)⟩ | exact⟨LV.pure_ne_any (dR.pure _),LV.pure_ne_tup (dR.pure _)⟩ | exact⟨LV.pure_ne_any (by assumption),LV.pure_ne_tup (by assumption)⟩):p:=h
theorem aKc {a s:Nat} (hs:s≤32):shI .shl .u32 (a:Nat) (32-(s:Int))=some (.int .u32 ((a % 2 ^ s*2 ^ (32-s):Nat):Int)):=by
 have:=aJY (a:=a) (s:=32-s) (by omega)
 rw [show 32-(32-s)=s by omega] at this
 rwa [show (32:Int)-(s:Int)=((32-s:Nat):Int) by omega]
end Go.Lg
namespace Go.Lg
def pY (s:Bool) (n:Nat):Int:=bif s then -(n:Int) else n
theorem aEN (s:Bool):pY s 0=0:=by cases s<;>rfl
theorem uG (s:Bool) (n:Nat):(pY s n).natAbs=n:=by cases s<;>simp [pY]
theorem aDd (q:Rat):pY (decide (q<0)) q.num.natAbs=q.num:=by
 have h:(q<0)↔q.num<0:=by rw [←Rat.not_le,←Rat.num_nonneg];omega
 by_cases hq:q<0
 ·have:=h.1 hq;simp only [hq,decide_true,pY,cond_true];omega
 ·have h2:¬ q.num<0:=fun x=>hq (h.2 x)
  simp only [hq,decide_false,pY,cond_false];omega
theorem uF (q:Rat):(q<0)↔q.num<0:=by rw [←Rat.not_le,←Rat.num_nonneg];omega
def qv (s:Bool) (n d:Nat):Rat:=mkRat (pY s n) d
theorem aB7 (s:Bool) {n d:Nat} (hn:0<n) (hd:0<d):(qv s n d).num.natAbs=n/n.gcd d:=by
 rw [qv,Rat.num_mkRat,if_neg (by omega),uG,Nat.gcd_comm]
 have h:((n.gcd d:Nat):Int) ∣ pY s n:=by
  cases s
  ·exact Int.natCast_dvd_natCast.2 (Nat.gcd_dvd_left _ _)
  ·exact(Int.dvd_neg.2 (Int.natCast_dvd_natCast.2 (Nat.gcd_dvd_left _ _)))
 rw [Int.natAbs_ediv_of_dvd h,uG]
 simp
theorem aFA (s:Bool) (n:Nat) {d:Nat} (hd:0<d):(qv s n d).den=d/n.gcd d:=by
 rw [qv,Rat.den_mkRat,if_neg (by omega),uG,Nat.gcd_comm]
theorem aLX (s:Bool) {n d:Nat} (hn:0<n) (hd:0<d):decide (qv s n d<0)=s:=by
 have h1:(qv s n d).num=pY s n/(n.gcd d:Nat):=by rw [qv,Rat.num_mkRat,if_neg (by omega),uG,Nat.gcd_comm]
 have hg:0<n.gcd d:=Nat.gcd_pos_of_pos_left _ hn
 have h2:=aB7 s hn hd
 have h3:n/n.gcd d≠0:=by
  have:=Nat.div_pos (Nat.le_of_dvd hn (Nat.gcd_dvd_left n d)) hg;omega
 cases s
 ·have:0≤(qv false n d).num:=by rw [h1];exact Int.ediv_nonneg (by simp [pY]) (by omega)
  simp only [decide_eq_false_iff_not];rw [uF];omega
 ·have:(qv true n d).num≤0:=by
   rw [h1];simp only [pY,cond_true]
   have hd':((n.gcd d:Nat):Int) ∣ (n:Int):=Int.natCast_dvd_natCast.2 (Nat.gcd_dvd_left _ _)
   rw [Int.neg_ediv_of_dvd hd']
   have:=Int.ediv_nonneg (a:=(n:Int)) (b:=(n.gcd d:Nat)) (by omega) (by omega)
   omega
  simp only [decide_eq_true_eq];rw [uF];omega
theorem rF (s:Bool) (d:Nat):qv s 0 d=0:=by rw [qv,aEN,Rat.zero_mkRat]
theorem yI (s:Bool) (n:Nat):qv s n 0=0:=by rw [qv];simp
theorem eU (q:Rat):qv (decide (q<0)) q.num.natAbs q.den=q:=by rw [qv,aDd,Rat.mkRat_self]
def sgR (s:Bool) (q:Rat):Rat:=qv s q.num.natAbs q.den
theorem qS (q:Rat):sgR (decide (q<0)) q=q:=eU q
theorem aHT (s:Bool) (n:Nat):pY (!s) n=- pY s n:=by cases s<;>simp [pY]
theorem aIf (q:Rat):sgR (!decide (q<0)) q=-q:=by
 rw [sgR,qv,aHT,←Rat.neg_mkRat,aDd,Rat.mkRat_self]
theorem zN (s t:Bool) (n d m e:Nat):qv s n d*qv t m e=qv (s != t) (n*m) (d*e):=by
 simp only [qv,Rat.mkRat_mul_mkRat]
 congr 1
 cases s<;>cases t<;>simp [pY,Int.mul_neg,Int.neg_mul]
theorem tJ (s:Bool) {n d m e:Nat} (hd:0<d) (he:0<e):qv s n d+qv s m e=qv s (n*e+m*d) (d*e):=by
 simp only [qv];rw [Rat.mkRat_add_mkRat _ _ (by omega) (by omega)]
 congr 1
 cases s<;>simp [pY,Int.neg_mul]<;>omega
theorem xI (s t:Bool) {n d m e:Nat} (hd:0<d) (he:0<e) (hst:s≠t) (h:m*d≤n*e):qv s n d+qv t m e=qv s (n*e-m*d) (d*e):=by
 simp only [qv];rw [Rat.mkRat_add_mkRat _ _ (by omega) (by omega)]
 congr 1
 cases s<;>cases t<;>simp_all [pY,Int.neg_mul]<;>omega
theorem uP (s t:Bool) {n d m e:Nat} (hd:0<d) (he:0<e) (hst:s≠t) (h:n*e≤m*d):qv s n d+qv t m e=qv t (m*d-n*e) (d*e):=by
 simp only [qv];rw [Rat.mkRat_add_mkRat _ _ (by omega) (by omega)]
 congr 1
 cases s<;>cases t<;>simp_all [pY,Int.neg_mul]<;>omega
theorem aBo (x:Rat):(-x)⁻¹=-x⁻¹:=by grind
theorem aJR (s:Bool) (n d:Nat):(qv s n d)⁻¹=qv s d n:=by
 have h0:(qv false n d)⁻¹=qv false d n:=by
  simp only [qv,Rat.mkRat_eq_div,pY,cond_false]
  rw [Rat.div_def,Rat.inv_mul_rev,Rat.inv_inv,Rat.div_def]
  rfl
 cases s
 ·exact h0
 ·have e:∀ n d:Nat,qv true n d=- qv false n d:=fun n d=>by simp only [qv,pY,cond_true,cond_false,Rat.neg_mkRat]
  rw [e,e,aBo,h0]
theorem aCi (s t:Bool) (n d m e:Nat):qv s n d/qv t m e=qv (s != t) (n*e) (d*m):=by
 rw [Rat.div_def,aJR,zN]
theorem wP (s:Bool) {n d k:Nat} (hk:0<k):qv s (n*k) (d*k)=qv s n d:=by
 by_cases hd:d=0
 ·subst hd;simp [yI]
 simp only [qv]
 rw [Rat.mkRat_eq_iff (by have:=Nat.mul_pos (Nat.pos_of_ne_zero hd) hk;omega) hd]
 cases s<;>simp [pY]<;>grind
theorem jH (q:Rat):jL q=if q.den=1 then 0 else q.den:=rfl
def rl (q:Rat):Nat:=max (aZ q.num.natAbs).length (aZ q.den).length
theorem gX (q:Rat):(aZ q.num.natAbs).length≤rl q:=Nat.le_max_left _ _
theorem iM (q:Rat):(aZ q.den).length≤rl q:=Nat.le_max_right _ _
theorem gD (q:Rat):(aZ (jL q)).length≤rl q:=by
 rw [jH];split
 ·simp [hY]
 ·exact iM q
theorem aLN {q:Rat} {k:Nat} (hn:q.num.natAbs<4294967296 ^ k) (hd:q.den<4294967296 ^ k):rl q≤k :=
 Nat.max_le.2 ⟨eO hn,eO hd⟩
theorem xN (q:Rat):q.num.natAbs<4294967296 ^ rl q∧q.den<4294967296 ^ rl q:=⟨dO (gX q),dO (iM q)⟩
theorem aFz (q:Rat):1≤rl q:=by
 have:=iM q
 have h:aZ q.den≠[]:=fun h=>q.den_nz (eE.1 h)
 have:=List.length_pos_iff.2 h
 omega
theorem aAT (s:Bool) {n d k:Nat} (hn:n<4294967296 ^ k) (hd:d<4294967296 ^ k):rl (qv s n d)≤max k 1:=by
 by_cases hd0:d=0
 ·subst hd0;rw [yI];exact Nat.le_trans (Nat.le_of_eq (by rfl)) (Nat.le_max_right _ _)
 by_cases hn0:n=0
 ·subst hn0;rw [rF];exact Nat.le_trans (Nat.le_of_eq (by rfl)) (Nat.le_max_right _ _)
 refine Nat.le_trans (aLN (k:=k) ?_ ?_) (Nat.le_max_left _ _)
 ·rw [aB7 s (by omega) (by omega)];exact Nat.lt_of_le_of_lt (Nat.div_le_self _ _) hn
 ·rw [aFA s n (by omega)];exact Nat.lt_of_le_of_lt (Nat.div_le_self _ _) hd
theorem zY (q:Rat):rl (-q)=rl q:=by simp [rl]
theorem g8 {x y a b:Nat} (hx:x<4294967296 ^ a) (hy:y<4294967296 ^ b):x*y<4294967296 ^ (a+b):=by
 rw [Nat.pow_add];exact Nat.mul_lt_mul'' hx hy
theorem bR (a b:Rat):rl (a*b)≤rl a+rl b:=by
 have ha:=xN a
 have hb:=xN b
 have:=aAT (decide (a<0) != decide (b<0)) (g8 ha.1 hb.1) (g8 ha.2 hb.2)
 rw [←zN,eU,eU] at this
 have:=aFz a
 omega
theorem iZ (a b:Rat):rl (a/b)≤rl a+rl b:=by
 have ha:=xN a
 have hb:=xN b
 have:=aAT (decide (a<0) != decide (b<0)) (g8 ha.1 hb.2) (g8 ha.2 hb.1)
 rw [←aCi,eU,eU] at this
 have:=aFz a
 omega
theorem vV {x y k:Nat} (hx:x<4294967296 ^ k) (hy:y<4294967296 ^ k):x+y<4294967296 ^ (k+1):=by
 rw [Nat.pow_succ];omega
theorem f7 (a b:Rat):rl (a+b)≤rl a+rl b+1:=by
 have ha:=xN a
 have hb:=xN b
 have hd:=g8 ha.2 hb.2
 have hd':a.den*b.den<4294967296 ^ (rl a+rl b+1):=Nat.lt_trans hd (Nat.pow_lt_pow_right (by omega) (by omega))
 have h1:=g8 ha.1 hb.2
 have h2:=g8 ha.2 hb.1
 have hs:=vV h1 h2
 have key:∀ n,n≤a.num.natAbs*b.den+a.den*b.num.natAbs→∀ s,a+b=qv s n (a.den*b.den)→rl (a+b)≤rl a+rl b+1:=by
  intro n hn s e
  rw [e]
  have:=aAT s (Nat.lt_of_le_of_lt hn hs) hd'
  omega
 rw [Nat.mul_comm a.den b.num.natAbs] at key
 by_cases hst:decide (a<0)=decide (b<0)
 ·refine key _ (Nat.le_refl _) (decide (a<0)) ?_
  have:=tJ (decide (a<0)) (n:=a.num.natAbs) (m:=b.num.natAbs) a.den_pos b.den_pos
  rw [←this,eU,hst,eU]
 ·rcases Nat.le_total (b.num.natAbs*a.den) (a.num.natAbs*b.den) with h | h
  ·refine key (a.num.natAbs*b.den-b.num.natAbs*a.den) (by omega) (decide (a<0)) ?_
   have:=xI _ _ a.den_pos b.den_pos hst h
   rw [←this,eU,eU]
  ·refine key (b.num.natAbs*a.den-a.num.natAbs*b.den) (by omega) (decide (b<0)) ?_
   have:=uP _ _ a.den_pos b.den_pos hst h
   rw [←this,eU,eU]
theorem d9 (a b:Rat):rl (a-b)≤rl a+rl b+1:=by
 have:=f7 a (-b)
 rw [zY] at this
 rwa [Rat.sub_eq_add_neg]
theorem rO (s:Bool) {n d:Nat} (hn:0<n) (hd:0<d):ratL (qv s n d)=.agg [.v (.bool s),bQ (n/n.gcd d),bQ (if d/n.gcd d=1 then 0 else d/n.gcd d)]:=by
 rw [iV,aLX s hn hd,aB7 s hn hd,jH,aFA s n hd]
def g6 (a b:Rat):Int:=if a<b then -1 else if b<a then 1 else 0
section
variable {P:Program} {H:cM} {ρ:Operand→LV} {T:TypeId} {p x:Operand} {b i d sz:Nat} {q:Rat} {vals:List LV} {m ag:Bool} {α:Type} {e:α→LV} {a:α}
theorem OpP.ldNeg (hp:ρ p=.eptr b 3 i 0) (hb:H b=some ⟨3,vals,m⟩) (hi:vals[i]?=some (ratL q)) (hT:bT P T 1 false):OpP P H ρ (.load T p) (.v (.bool (decide (q<0)))):=.loadE hp hb rfl hi (aD.csize _) (aES q) hT
theorem OpP.ldNum (hp:ρ p=.eptr b 3 i 1) (hb:H b=some ⟨3,vals,m⟩) (hi:vals[i]?=some (ratL q)) (hT:bT P T 1 false):OpP P H ρ (.load T p) (bQ q.num.natAbs):=.loadE hp hb rfl hi (aD.csize _) (aGg q) hT
theorem OpP.ldDen (hp:ρ p=.eptr b 3 i 2) (hb:H b=some ⟨3,vals,m⟩) (hi:vals[i]?=some (ratL q)) (hT:bT P T 1 false):OpP P H ρ (.load T p) (bQ (jL q)):=.loadE hp hb rfl hi (aD.csize _) (aEL q) hT
theorem OpP.ldRat (hp:ρ p=.eptr b 3 i 0) (hb:H b=some ⟨3,vals,m⟩) (hi:vals[i]?=some (ratL q)) (hT:bT P T 3 true):OpP P H ρ (.load T p) (ratL q):=.loadE hp hb rfl hi (aD.csize _) (aH q) hT
theorem OpA.boxE (he:EncOK e sz ag) (hx:ρ x=e a):OpA P ρ d (.box T x) (.eptr d sz 0 0) ⟨sz,[e a],true⟩:=by
 have h:=OpA.box (P:=P) (ρ:=ρ) (d:=d) (T:=T) (x:=x) (by rw [hx];exact⟨fun h=>by have:=he.pure a;rw [h] at this;simp [LV.pure] at this,LV.pure_ne_tup (he.pure a)⟩)
 rwa [hx,he.csize] at h
theorem OpA.allocE (he:EncOK e sz ag) (hz:bA P T (e a)):OpA P ρ d (.alloc T) (.eptr d sz 0 0) ⟨sz,[e a],true⟩:=by
 have h:=OpA.alloc (ρ:=ρ) (d:=d) hz
 rwa [he.csize] at h
end
section
variable {P:Program} {L:St} {dst:Option Nat} {T:TypeId} {p x:Operand} {b:Nat} {q:Rat} {zs:List LV}
theorem OpT.stRat (hp:L.ev p=.eptr b 3 0 0) (hb:L.heap b=some ⟨3,[.agg zs],true⟩) (hz:aL zs=3) (hx:L.ev x=ratL q) (hT:bT P T 3 true) :
  OpT P L dst (.store T p x) ((L.setB b (some ⟨3,[ratL q],true⟩)).put dst .any):=by
 have h:=OpT.store (P:=P) (dst:=dst) (T:=T) (p:=p) (x:=x) (y:=.agg zs) (y':=ratL q) hp hb rfl rfl rfl (by simp [LV.csize,hz])
  (by rw [hx];simp [LV.put,hz,aD.csize,aD.isAgg]) (by rw [hx,aD.csize,aD.isAgg];exact hT)
  (by rw [hx];exact⟨fun h=>by have:=aD.pure q;rw [h] at this;simp [LV.pure] at this,LV.pure_ne_tup (aD.pure q)⟩)
 exact h
end
section
variable {P:Program} {H:cM} {ρ:Operand→LV} {T:TypeId} {p x y:Operand} {b i d sz:Nat} {s:Rat × Rat} {vals:List LV} {m ag:Bool} {q r:Rat}
theorem OpP.ldLo (hp:ρ p=.eptr b 6 i 0) (hb:H b=some ⟨6,vals,m⟩) (hi:vals[i]?=some (spL s)) (hT:bT P T 3 true):OpP P H ρ (.load T p) (ratL s.1):=.loadE hp hb rfl hi (d8.csize _) (aF2 s) hT
theorem OpP.ldHi (hp:ρ p=.eptr b 6 i 3) (hb:H b=some ⟨6,vals,m⟩) (hi:vals[i]?=some (spL s)) (hT:bT P T 3 true):OpP P H ρ (.load T p) (ratL s.2):=.loadE hp hb rfl hi (d8.csize _) (aGp s) hT
theorem OpP.ldSp (hp:ρ p=.eptr b 6 i 0) (hb:H b=some ⟨6,vals,m⟩) (hi:vals[i]?=some (spL s)) (hT:bT P T 6 true):OpP P H ρ (.load T p) (spL s):=.loadE hp hb rfl hi (d8.csize _) (fN s) hT
theorem OpP.buildSp (hT:cT P T [(3,true),(3,true)]) (hz:bA P T (.agg [ratL 0,ratL 0])) (hx:ρ x=ratL q) (hy:ρ y=ratL r):OpP P H ρ (.build T #[(0,x),(1,y)]) (spL (q,r)):=by
 have:=OpP.build (P:=P) (H:=H) (ρ:=ρ) (T:=T) (ps:=#[(0,x),(1,y)]) (zs:=[ratL 0,ratL 0]) (by simpa [lay,aD.csize,aD.isAgg] using hT) hz (by
  simp only [List.forall_mem_cons]
  exact⟨⟨_,rfl,by simp [lay,hx,aD.csize,aD.isAgg],by rw [hx];exact⟨LV.pure_ne_any (aD.pure _),LV.pure_ne_tup (aD.pure _)⟩⟩,⟨_,rfl,by simp [lay,hy,aD.csize,aD.isAgg],by rw [hy];exact⟨LV.pure_ne_any (aD.pure _),LV.pure_ne_tup (aD.pure _)⟩⟩,fun _ h=>by cases h⟩)
 rw [mG]
 simpa [eN,hx,hy] using this
theorem OpT.stSp {L:St} {dst:Option Nat} {s0:Rat × Rat} (hp:L.ev p=.eptr b 6 0 0) (hb:L.heap b=some ⟨6,[spL s0],true⟩) (hx:L.ev x=spL s) (hT:bT P T 6 true) :
  OpT P L dst (.store T p x) ((L.setB b (some ⟨6,[spL s],true⟩)).put dst .any):=by
 have h0:LV.put (spL s0) 0 (L.ev x)=some (spL s):=by
  rw [hx,mG s0]
  simp [LV.put,d8.csize,d8.isAgg,aL,LV.csize,aD.csize]
 have h:=OpT.store (P:=P) (dst:=dst) (T:=T) (p:=p) (x:=x) (y:=spL s0) (y':=spL s) hp hb rfl rfl rfl (d8.csize _) h0 (by rw [hx,d8.csize,d8.isAgg];exact hT)
  (by rw [hx];exact⟨LV.pure_ne_any (d8.pure s),LV.pure_ne_tup (d8.pure s)⟩)
 exact h
end
theorem vP {L:St} {α:Type} {e:α→LV} {ag:Bool} {bs:List Nat} {b sz off len:Nat} {l l':List α} {m:Bool} (he:EncOK e sz ag) (hb:L.heap b=some ⟨sz,l.map e,m⟩) (hbs:bs.contains b=true) (hl:off+len≤l.length) (h:(l.drop off).take len=l') :
  Imm (L.frz bs).heap (.ref b sz off len) (.list sz (l'.map e)):=by
 have:=o5 (L:=L) (bs:=bs) (off:=off) (len:=len) hb hbs (aF he l) (by simpa using hl)
 rwa [←List.map_drop,←List.map_take,h] at this
theorem aHP {n:Int} (h1:-9223372036854775808<n) (h2:n≤9223372036854775807):(if IntKind.i64.wrap (0-n) > n then IntKind.i64.wrap (0-n) else n)=((n.natAbs:Nat):Int):=by
 rw [IntWalk.i64_in _ (by omega)];split<;>omega
theorem u7 (n:Int):qv (decide (n<0)) n.natAbs 1=(n:Rat):=by
 have:pY (decide (n<0)) n.natAbs=n:=by
  by_cases h:n<0
  ·simp only [h,decide_true,pY,cond_true];omega
  ·simp only [h,decide_false,pY,cond_false];omega
 rw [qv,this,Rat.mkRat_one]
theorem yF (n d:Int):qv (decide (n<0) != decide (d<0)) n.natAbs d.natAbs=(n:Rat)/(d:Rat):=by
 rw [←u7 n,←u7 d,aCi];simp
theorem aJU {q:Rat} (h:q.den<4294967296):(aZ (jL q)).length≤1:=eJ.2 (by rw [jH];split<;>omega)
theorem qX {q:Rat} (h:0<(aZ (jL q)).length):jL q=q.den:=by
 rw [jH] at h ⊢;split
 ·rename_i h1;rw [if_pos h1] at h;simp [hY] at h
 ·rfl
theorem r7 {q:Rat} (h:(aZ (jL q)).length=0):q.den=1:=by
 have h0:=eE.1 (List.eq_nil_of_length_eq_zero h)
 rw [jH] at h0
 have:=q.den_pos
 split at h0
 ·assumption
 ·omega
def smB (q:Rat):Bool:=decide (q.num.natAbs<4294967296∧q.den<4294967296)
def pN (q:Rat):Nat:=if smB q then q.num.natAbs else 0
def pD (q:Rat):Nat:=if smB q then q.den else 0
def dM (a:Rat):Int:=if a=0 then 0 else if a<0 then -1 else 1
theorem aCQ (q:Rat):dM q=if q.num.natAbs=0 then 0 else if q<0 then -1 else 1:=by
 unfold dM
 by_cases h:q=0
 ·subst h;rfl
 ·have:¬ q.num.natAbs=0:=fun h2=>h (Rat.num_eq_zero.1 (by omega))
  rw [if_neg h,if_neg this]
def nT (l:List Nat) (off n:Nat):List Nat:=if n<4294967296 then l.set off n else(l.set off (n % 4294967296)).set (off+1) (n/4294967296)
def lA (n:Nat):Nat:=if n<4294967296 then 1 else 2
theorem nX {n:Nat} (h0:0<n) (h:n<18446744073709551616):(n<4294967296∧lA n=1∧aZ n=[n])∨(4294967296≤n∧lA n=2∧aZ n=[n % 4294967296,n/4294967296]):=by
 by_cases hn:n<4294967296
 ·exact .inl ⟨hn,by simp [lA,hn],lF h0 hn⟩
 ·refine .inr ⟨by omega,by simp [lA,hn],?_⟩
  rw [lZ h0,lF (by omega) (by omega)]
theorem aDJ {n:Nat} (h0:0<n) (h:n<18446744073709551616):((nT [0,0,0,0] 0 n).drop 0).take (lA n)=aZ n:=by
 rcases nX h0 h with⟨h1,h2,h3⟩ | ⟨h1,h2,h3⟩
 ·rw [h2,h3];simp [nT,h1]
 ·rw [h2,h3];simp [nT,Nat.not_lt.2 h1]
theorem aEw {n d:Nat} (h0:0<n) (h:n<18446744073709551616) (g0:0<d) (g:d<18446744073709551616) :
  ((nT (nT [0,0,0,0] 0 n) (lA n) d).drop 0).take (lA n)=aZ n∧((nT (nT [0,0,0,0] 0 n) (lA n) d).drop (lA n)).take (lA d)=aZ d:=by
 rcases nX h0 h with⟨h1,h2,h3⟩ | ⟨h1,h2,h3⟩<;>rcases nX g0 g with⟨g1,g2,g3⟩ | ⟨g1,g2,g3⟩<;>rw [h2,h3,g2,g3]<;>simp [nT, *,Nat.not_lt.2]
theorem vZ (l:List Nat) (off n:Nat):(nT l off n).length=l.length:=by unfold nT;split<;>simp
section
variable {P:Program} {ρ:Operand→LV} {α:Type} {e:α→LV}
theorem OpA.lit3 {T E:TypeId} {x y w:Operand} {d sz:Nat} {ag:Bool} {z a b c:α} (he:EncOK e sz ag) (hT:P.underlying T=some (.slice E)) (hz:bA P E (e z)) (hE:bT P E sz ag) (hx:ρ x=e a) (hy:ρ y=e b) (hw:ρ w=e c) (hs0:0<sz) (hs1:sz≤1000) :
  OpA P ρ d (.buildSlice T 3 #[(0,x),(1,y),(2,w)]) (.ref d sz 0 3) ⟨sz,[a,b,c].map e,true⟩:=by
 have hne:∀ v,ρ v=e a∨ρ v=e b∨ρ v=e c→lay (ρ v)=lay (e z)∧ρ v≠.any∧∀ m,ρ v≠.tup m:=by
  rintro v (h | h | h)<;>rw [h]<;>exact⟨by simp [lay,he.csize,he.isAgg],LV.pure_ne_any (he.pure _),LV.pure_ne_tup (he.pure _)⟩
 have:=OpA.lit (P:=P) (ρ:=ρ) (d:=d) (T:=T) (n:=3) (ps:=#[(0,x),(1,y),(2,w)]) hT hz (by rw [he.isAgg];exact hE) (he.csize z) (by omega) (by omega) hs0 (by
  intro p hp
  simp only [List.mem_cons,List.not_mem_nil,or_false] at hp
  rcases hp with rfl | rfl | rfl
  ·exact⟨by show 0<3;omega,hne x (.inl hx)⟩
  ·exact⟨by show 1<3;omega,hne y (.inr (.inl hy))⟩
  ·exact⟨by show 2<3;omega,hne w (.inr (.inr hw))⟩)
 simpa [eN,hx,hy,hw,List.replicate] using this
theorem OpA.lit4 {T E:TypeId} {x y w z':Operand} {d sz:Nat} {ag:Bool} {z a b c f:α} (he:EncOK e sz ag) (hT:P.underlying T=some (.slice E)) (hz:bA P E (e z)) (hE:bT P E sz ag) (hx:ρ x=e a) (hy:ρ y=e b) (hw:ρ w=e c) (hf:ρ z'=e f) (hs0:0<sz) (hs1:sz≤1000) :
  OpA P ρ d (.buildSlice T 4 #[(0,x),(1,y),(2,w),(3,z')]) (.ref d sz 0 4) ⟨sz,[a,b,c,f].map e,true⟩:=by
 have hne:∀ v,ρ v=e a∨ρ v=e b∨ρ v=e c∨ρ v=e f→lay (ρ v)=lay (e z)∧ρ v≠.any∧∀ m,ρ v≠.tup m:=by
  rintro v (h | h | h | h)<;>rw [h]<;>exact⟨by simp [lay,he.csize,he.isAgg],LV.pure_ne_any (he.pure _),LV.pure_ne_tup (he.pure _)⟩
 have:=OpA.lit (P:=P) (ρ:=ρ) (d:=d) (T:=T) (n:=4) (ps:=#[(0,x),(1,y),(2,w),(3,z')]) hT hz (by rw [he.isAgg];exact hE) (he.csize z) (by omega) (by omega) hs0 (by
  intro p hp
  simp only [List.mem_cons,List.not_mem_nil,or_false] at hp
  rcases hp with rfl | rfl | rfl | rfl
  ·exact⟨by show 0<4;omega,hne x (.inl hx)⟩
  ·exact⟨by show 1<4;omega,hne y (.inr (.inl hy))⟩
  ·exact⟨by show 2<4;omega,hne w (.inr (.inr (.inl hw)))⟩
  ·exact⟨by show 3<4;omega,hne z' (.inr (.inr (.inr hf)))⟩)
 simpa [eN,hx,hy,hw,hf,List.replicate] using this
end
theorem fV {P:Program} {L L0:St} {c:Code} {Q:LEx→St→Prop} (hw:a7 L L0) (h:wpL P (.loop c) Q L0):wpL P (.loop c) Q L:=by
 intro I hI
 obtain⟨L1,h1,h2⟩:=h I hI
 exact⟨L1,hw.trans h1,h2⟩
section
variable {P:Program} {ops:Array Oper} {D:Array Bool} {L:St} {K:St→Prop} {fuel:Nat}
theorem cX (hr:Region.ready .any ops D=[]) (k:K L):mC P ops fuel D L K:=by
 cases fuel with
 | zero=>exact⟨hr,k⟩
 | succ n=>exact⟨fun _=>k,fun i hi=>by rw [hr] at hi;cases hi⟩
theorem a5 (i:Nat) (o:Oper) (hr:Region.ready .any ops D=[i]) (ho:ops[i]?=some o) (h:opsL P false ops [o] L (fun L'=>mC P ops fuel (D.setIfInBounds i true) L' K)):mC P ops (fuel+1) D L K:=by
 refine⟨fun e=>(by rw [hr] at e;cases e),fun j hj=>?_⟩
 rw [hr,List.mem_singleton] at hj
 subst hj
 obtain⟨L',h1,h2⟩:=h
 exact⟨o,L',ho,h1,h2⟩
theorem dT (i j:Nat) (o o2:Oper) (hr:Region.ready .any ops D=[i,j]) (ho:ops[i]?=some o) (ho2:ops[j]?=some o2) (h:opsL P false ops [o] L (fun L'=>mC P ops fuel (D.setIfInBounds i true) L' K))
  (h2:opsL P false ops [o2] L (fun L'=>mC P ops fuel (D.setIfInBounds j true) L' K)):mC P ops (fuel+1) D L K:=by
 refine⟨fun e=>(by rw [hr] at e;cases e),fun x hx=>?_⟩
 rw [hr] at hx
 simp only [List.mem_cons,List.not_mem_nil,or_false] at hx
 rcases hx with rfl | rfl
 ·obtain⟨L',h1,h3⟩:=h
  exact⟨o,L',ho,h1,h3⟩
 ·obtain⟨L',h1,h3⟩:=h2
  exact⟨o2,L',ho2,h1,h3⟩
end
class UN (P:Program) (T:TypeId) (d:outParam TypeDesc):Prop where
 h:P.underlying T=some d
class TI (P:Program) (T:TypeId) (sz:outParam Nat) (ag:outParam Bool):Prop where
 h:bT P T sz ag
class SI (P:Program) (T:TypeId) (l:outParam (List (Nat × Bool))):Prop where
 h:cT P T l
class BI (P:Program) (T:TypeId) (n:outParam Nat):Prop where
 h:bJ P T n
class ZI (P:Program) (T:TypeId) (z:outParam LV):Prop where
 h:bA P T z
class EC (P:Program) (T:TypeId) {α:outParam Type} (e:outParam (α→LV)) (sz:outParam Nat) (ag:outParam Bool) (z:outParam α):Prop where
 h:EncOK e sz ag
 z:bA P T (e z)
 t:bT P T sz ag
class AE (P:Program) (T:TypeId) {α:outParam Type} (e:outParam (α→LV)) (sz:outParam Nat) (ag:outParam Bool) (z:outParam α):Prop where
 h:EncOK e sz ag
 z:bA P T (e z)
theorem zHs {p:Prop} (h:p:=by first | (simp only [hce,l1,t0,t1,eQ,aX];exact rfl) | exact rfl):p:=h
theorem aCB {S:St→St} {L L1:St} (h:S L1=L):∃ L1,a7 L (S L1):=⟨L1,a7.of_eq h⟩
def aLM:BinOp→Bool
 | .eql | .neq | .lss | .leq | .gtr | .geq=>true
 | _=>false
section
variable {P:Program} {H:cM} {ρ:Operand→LV} {α:Type} {e:α→LV} {sz:Nat} {ag:Bool} {z a:α} {T E:TypeId} {p x i:Operand} {L L0:St} {Q:LEx→St→Prop} {K:St→Prop}
theorem OpP.ldB [c:EC P T e sz ag z] (hp:ρ p=.boxp (e a)):OpP P H ρ (.load T p) (e a):=.loadBm c.h hp c.t
theorem OpP.ldE [Inhabited α] [c:EC P T e sz ag z] {b i:Nat} {l:List α} {m:Bool} (hp:ρ p=.eptr b sz i 0) (hb:H b=some ⟨sz,l.map e,m⟩) (hi:i<l.length):OpP P H ρ (.load T p) (e (l.getD i default)):=.loadEm c.h hp hb c.t hi
theorem OpP.ixL [Inhabited α] [u:UN P T (.slice E)] [c:EC P E e sz ag z] {l:List α} {k:IntKind} {n:Int} (hx:ρ x=.list sz (l.map e)) (hi:ρ i=.v (.int k n)) (h0:0≤n) (hn:n<l.length) :
  OpP P H ρ (.indexAddr T x i) (.boxp (e (l.getD n.toNat default))):=.idxLm c.h hx u.h c.t hi h0 hn
theorem OpP.ixR [u:UN P T (.slice E)] [c:TI P E sz ag] {b off len:Nat} {k:IntKind} {n:Int} (hx:ρ x=.ref b sz off len) (hi:ρ i=.v (.int k n)) (h0:0≤n) (hn:n<len) :
  OpP P H ρ (.indexAddr T x i) (.eptr b sz (off+n.toNat) 0):=.idxR hx u.h c.h hi h0 hn
theorem OpP.cmp {op:BinOp} {U:TypeId} {y:Operand} {k:IntKind} {a b:Int} {r:Value} (hc:aLM op=true) (hx:ρ x=.v (.int k a)) (hy:ρ y=.v (.int k b)) (h:dU op k a b=some r):OpP P H ρ (.binOp op T x y U) (.v r):=.bin hx hy h
theorem OpT.stE [Inhabited α] [c:EC P T e sz ag z] {dst:Option Tmp} {b i:Nat} {l:List α} (hp:L.ev p=.eptr b sz i 0) (hb:L.heap b=some ⟨sz,l.map e,true⟩) (hx:L.ev x=e a) (hi:i<l.length) :
  OpT P L dst (.store T p x) ((L.setB b (some ⟨sz,(l.set i a).map e,true⟩)).put dst .any):=.storeM c.h hp hb hx c.t hi
theorem OpA.mkE {by_:Nat} [u:UN P T (.slice E)] [c:EC P E e sz ag z] [b:BI P E by_] {d n m:Nat} {kl kc:IntKind} (hl:ρ x=.v (.int kl (n:Nat))) (hc:ρ i=.v (.int kc (m:Nat))) (hnm:n≤m) (hm:by_*m≤281474976710656) (hm2:m≤9223372036854775807) :
  OpA P ρ d (.makeSlice T x i) (.ref d sz 0 n) ⟨sz,(List.replicate n z).map e,true⟩:=.makeM c.h u.h c.z c.t b.h hl hc hnm hm hm2
theorem OpA.bxE [c:EC P T e sz ag z] {d:Nat} (hx:ρ x=e a):OpA P ρ d (.box T x) (.eptr d sz 0 0) ⟨sz,[e a],true⟩:=.boxE c.h hx
theorem aQ {c:Operand} {x y:Code} {t:Bool} {u v:Prop} (hc:L.ev c=.v (.bool t)) (h1:t=true→u→wpL P x Q L) (h2:t=false→v→wpL P y Q L)
  (e1:(t=true)=u:=by exact zHs) (e2:(t=false)=v:=by exact zHs):wpL P (.cond c x y) Q L:=yW hc (fun h=>h1 h (e1 ▸ h)) (fun h=>h2 h (e2 ▸ h))
theorem OpA.alE [c:AE P T e sz ag z] {d:Nat}:OpA P ρ d (.alloc T) (.eptr d sz 0 0) ⟨sz,[e z],true⟩:=.allocE c.h c.z
theorem OpA.l0 [u:UN P T (.slice E)] [t:TI P E sz ag] {d:Nat}:OpA P ρ d (.buildSlice T 0 #[]) (.ref d sz 0 0) ⟨sz,[],true⟩:=.lit0 u.h t.h
theorem OpA.l1 [u:UN P T (.slice E)] [c:EC P E e sz ag z] {d:Nat} {x0:Operand} {a0:α} (h0:ρ x0=e a0) (hs0:0<sz:=by decide) (hs1:sz≤1000:=by decide):OpA P ρ d (.buildSlice T 1 #[(0,x0)]) (.ref d sz 0 1) ⟨sz,[a0].map e,true⟩:=.lit1 c.h u.h c.z c.t h0 hs0 hs1
theorem OpA.l2 [u:UN P T (.slice E)] [c:EC P E e sz ag z] {d:Nat} {x0 x1:Operand} {a0 a1:α} (h0:ρ x0=e a0) (h1:ρ x1=e a1) (hs0:0<sz:=by decide) (hs1:sz≤1000:=by decide):OpA P ρ d (.buildSlice T 2 #[(0,x0),(1,x1)]) (.ref d sz 0 2) ⟨sz,[a0,a1].map e,true⟩:=.lit2 c.h u.h c.z c.t h0 h1 hs0 hs1
theorem OpA.l3 [u:UN P T (.slice E)] [c:EC P E e sz ag z] {d:Nat} {x0 x1 x2:Operand} {a0 a1 a2:α} (h0:ρ x0=e a0) (h1:ρ x1=e a1) (h2:ρ x2=e a2) (hs0:0<sz:=by decide) (hs1:sz≤1000:=by decide):OpA P ρ d (.buildSlice T 3 #[(0,x0),(1,x1),(2,x2)]) (.ref d sz 0 3) ⟨sz,[a0,a1,a2].map e,true⟩:=.lit3 c.h u.h c.z c.t h0 h1 h2 hs0 hs1
theorem OpA.l4 [u:UN P T (.slice E)] [c:EC P E e sz ag z] {d:Nat} {x0 x1 x2 x3:Operand} {a0 a1 a2 a3:α} (h0:ρ x0=e a0) (h1:ρ x1=e a1) (h2:ρ x2=e a2) (h3:ρ x3=e a3) (hs0:0<sz:=by decide) (hs1:sz≤1000:=by decide):OpA P ρ d (.buildSlice T 4 #[(0,x0),(1,x1),(2,x2),(3,x3)]) (.ref d sz 0 4) ⟨sz,[a0,a1,a2,a3].map e,true⟩:=.lit4 c.h u.h c.z c.t h0 h1 h2 h3 hs0 hs1
theorem eD {dr:Bool} {ops:Array Oper} {l:List Oper} (d:Nat) {b:Bool} {u v:Prop} (h:L.slot d=.v (.bool b)) (ht:b=true→u→opsL P dr ops l L K) (hf:b=false→v→opsL P dr ops l L K)
  (e1:(b=true)=u:=by exact zHs) (e2:(b=false)=v:=by exact zHs):opsL P dr ops l L K:=aBX h (fun h=>ht h (e1 ▸ h)) (fun h=>hf h (e2 ▸ h))
theorem OpP.bd {zs:List LV} {l:List (Nat × Bool)} {ps:Array (Nat × Operand)} [z:ZI P T (.agg zs)] [s:SI P T l] (h:zs.map lay=l) (hp:∀ p∈ps.toList,∃ z,zs[p.1]?=some z∧lay (ρ p.2)=lay z∧ρ p.2≠.any∧∀ m,ρ p.2≠.tup m) :
  OpP P H ρ (.build T ps) (.agg (eN zs (ps.toList.map fun p=>(p.1,ρ p.2)))):=.build (h ▸ s.h) z.h hp
end
namespace H0
theorem cK {p q:Prop} (k:q) (e:p=q:=by simp only [e1,e2,e3,e4,p1,p2,p3,q1,q2,q3,l1,t0,t1,r1,r2,r3,r4,Nat.zero_add,Nat.reduceMul,Nat.reduceAdd,b1,b2,b3,b4,b5,b6,i1,i2,i3,i4,i5,i6,Nat.reduceBEq];exact rfl):p:=e.mpr k
end H0
theorem oo {p:Prop} (h:p:=by omega):p:=h
theorem om {p:Prop} (h:p:=by first | (refine cK ?_;omega) | omega):p:=h
theorem nf {p:Prop} (h:p:=by first | (refine cK ?_;exact rfl) | exact rfl):p:=h
theorem cl {p:Prop} (h:p:=by first | rfl | (refine cK ?_;first | exact trivial | rfl | (congr 3<;>omega) | (congr 2<;>omega))):p:=h
theorem ml {p:Prop} (h:p:=by first | rfl | (refine cK ?_;first | exact trivial | rfl | (congr 2<;>omega))):p:=h
theorem nt1:(!true)=false:=rfl
theorem nt2:(!false)=true:=rfl
theorem as0 {p:Prop} (h:p:=by first | assumption | with_reducible rfl | with_reducible exact nt1 | with_reducible exact nt2):p:=h
theorem gd {p:Prop} (h:p:=by first | exact rfl | exact aO (v:=true) rfl rfl as0 rfl | exact aO (v:=false) rfl rfl as0 rfl):p:=h
theorem nes {p:Prop} (h:p:=by first | (intro p hp;cases hp;done) | (simp only [List.forall_mem_cons];first | exact⟨⟨_,rfl,rfl,t8⟩,fun _ h=>by cases h⟩ | exact⟨⟨_,rfl,rfl,t8⟩,⟨_,rfl,rfl,t8⟩,fun _ h=>by cases h⟩ | exact⟨⟨_,rfl,rfl,t8⟩,⟨_,rfl,rfl,t8⟩,⟨_,rfl,rfl,t8⟩,fun _ h=>by cases h⟩ | exact⟨⟨_,rfl,rfl,t8⟩,⟨_,rfl,rfl,t8⟩,⟨_,rfl,rfl,t8⟩,⟨_,rfl,rfl,t8⟩,fun _ h=>by cases h⟩)):p:=h
theorem cS {p:Prop} (h:p:=by exact .cons nJ .nil):p:=h
theorem bI {p:Prop} (h:p:=by exact .cons nJ (.cons nJ .nil)):p:=h
theorem nK {p:Prop} (h:p:=by exact .cons nJ (.cons nJ (.cons nJ .nil))):p:=h
theorem am0 {p:Prop} (h:p:=by exact .nil):p:=h
theorem fm1 {p:Prop} (h:p:=by exact .cons im1 .nil):p:=h
section
variable {P:Program} {dr:Bool} {ops:Array Oper} {rest:List Oper} {L:St} {K:St→Prop} {dst:Option Tmp} {ty:TypeId} {pos:String} {af:Array Edge} {g:Option (Nat × Bool)}
theorem cp {f:FuncId} {xs:Array Operand} {as:Array TypeId} {args:List LV} {r:LV} (ha:ImmL L.heap (xs.toList.map L.ev) args) (hk:aN P f args r) (k:opsL P dr ops rest (L.put dst r) K)
  (hg:bS ops L ⟨dst,.call ⟨.value (.func f),xs,as⟩,ty,pos,af,g⟩ true:=by exact gd):opsL P dr ops (⟨dst,.call ⟨.value (.func f),xs,as⟩,ty,pos,af,g⟩ :: rest) L K:=cY hg ha hk k
theorem cpf {f:FuncId} {xs:Array Operand} {as:Array TypeId} {args:List LV} {r:LV} (bs:List Nat) (ha:ImmL (L.frz bs).heap (xs.toList.map L.ev) args) (hk:aN P f args r) (k:opsL P dr ops rest ((L.frz bs).put dst r) K)
  (hg:bS ops L ⟨dst,.call ⟨.value (.func f),xs,as⟩,ty,pos,af,g⟩ true:=by exact gd) (h0:bs.contains 0=false:=by exact rfl):opsL P dr ops (⟨dst,.call ⟨.value (.func f),xs,as⟩,ty,pos,af,g⟩ :: rest) L K:=pJ bs hg h0 ha hk k
end
def Nx1 {α:Type} (S:α→St→St) (C:α→Prop) (μ:α→Nat) (a:α) (L:St):Prop:=∃ a' L2,C a'∧μ a'<μ a∧a7 L (S a' L2)
theorem lO {α:Type} {P:Program} {Q:LEx→St→Prop} {L:St} {k:Code} (S:α→St→St) (C:α→Prop) (μ:α→Nat) (a:α) (hC:C a) (hr:∀ a' L1,C a'→wpL P k (thenL (Nx1 S C μ a') Q) (S a' L1))
  (h0:∃ L1,a7 L (S a L1):=by apply aCB;repeat (first | exact bB cl | refine aA ?_ cl)):wpL P (.loop k) Q L:=by
 refine t7 (α:=α) (fun x=>S x) (fun x=>C x) (fun x=>μ x) a hC h0 ?_
 rintro a' L1 hc
 refine lK (fun e L h=>?_) (hr a' L1 hc)
 cases e with
 | normal =>
  obtain⟨a1,L2,h1,h2,h3⟩:=h
  exact⟨a1,L2,h1,h2,h3⟩
 | exit i=>exact h
 | ret=>exact h
theorem kE {α:Type} {S:α→St→St} {C:α→Prop} {μ:α→Nat} {a:α} {L L2:St} (a':α) (hc:C a') (hm:μ a'<μ a:=by omega) (he:a7 L (S a' L2):=by apply a7.of_eq;repeat (first | exact bB cl | refine aA ?_ cl)):Nx1 S C μ a L:=⟨a',L2,hc,hm,he⟩
def Nx2 {α β:Type} (S:α→β→St→St) (C:α→β→Prop) (μ:α→β→Nat) (a:α) (b:β) (L:St):Prop:=∃ a' b' L2,C a' b'∧μ a' b'<μ a b∧a7 L (S a' b' L2)
theorem wE {α β:Type} {P:Program} {Q:LEx→St→Prop} {L:St} {k:Code} (S:α→β→St→St) (C:α→β→Prop) (μ:α→β→Nat) (a:α) (b:β) (hC:C a b) (hr:∀ a' b' L1,C a' b'→wpL P k (thenL (Nx2 S C μ a' b') Q) (S a' b' L1))
  (h0:∃ L1,a7 L (S a b L1):=by apply aCB;repeat (first | exact bB cl | refine aA ?_ cl)):wpL P (.loop k) Q L:=by
 refine t7 (α:=α × β) (fun x=>S x.1 x.2) (fun x=>C x.1 x.2) (fun x=>μ x.1 x.2) (a,b) hC h0 ?_
 rintro⟨a',b'⟩ L1 hc
 refine lK (fun e L h=>?_) (hr a' b' L1 hc)
 cases e with
 | normal =>
  obtain⟨a1,b1,L2,h1,h2,h3⟩:=h
  exact⟨(a1,b1),L2,h1,h2,h3⟩
 | exit i=>exact h
 | ret=>exact h
theorem qI {α β:Type} {S:α→β→St→St} {C:α→β→Prop} {μ:α→β→Nat} {a:α} {b:β} {L L2:St} (a':α) (b':β) (hc:C a' b') (hm:μ a' b'<μ a b:=by omega) (he:a7 L (S a' b' L2):=by apply a7.of_eq;repeat (first | exact bB cl | refine aA ?_ cl)):Nx2 S C μ a b L:=⟨a',b',L2,hc,hm,he⟩
def Nx3 {α β γ:Type} (S:α→β→γ→St→St) (C:α→β→γ→Prop) (μ:α→β→γ→Nat) (a:α) (b:β) (c:γ) (L:St):Prop:=∃ a' b' c' L2,C a' b' c'∧μ a' b' c'<μ a b c∧a7 L (S a' b' c' L2)
theorem lp3 {α β γ:Type} {P:Program} {Q:LEx→St→Prop} {L:St} {k:Code} (S:α→β→γ→St→St) (C:α→β→γ→Prop) (μ:α→β→γ→Nat) (a:α) (b:β) (c:γ) (hC:C a b c) (hr:∀ a' b' c' L1,C a' b' c'→wpL P k (thenL (Nx3 S C μ a' b' c') Q) (S a' b' c' L1))
  (h0:∃ L1,a7 L (S a b c L1):=by apply aCB;repeat (first | exact bB cl | refine aA ?_ cl)):wpL P (.loop k) Q L:=by
 refine t7 (α:=α × β × γ) (fun x=>S x.1 x.2.1 x.2.2) (fun x=>C x.1 x.2.1 x.2.2) (fun x=>μ x.1 x.2.1 x.2.2) (a,b,c) hC h0 ?_
 rintro⟨a',b',c'⟩ L1 hc
 refine lK (fun e L h=>?_) (hr a' b' c' L1 hc)
 cases e with
 | normal =>
  obtain⟨a1,b1,c1,L2,h1,h2,h3⟩:=h
  exact⟨(a1,b1,c1),L2,h1,h2,h3⟩
 | exit i=>exact h
 | ret=>exact h
theorem nx3 {α β γ:Type} {S:α→β→γ→St→St} {C:α→β→γ→Prop} {μ:α→β→γ→Nat} {a:α} {b:β} {c:γ} {L L2:St} (a':α) (b':β) (c':γ) (hc:C a' b' c') (hm:μ a' b' c'<μ a b c:=by omega) (he:a7 L (S a' b' c' L2):=by apply a7.of_eq;repeat (first | exact bB cl | refine aA ?_ cl)):Nx3 S C μ a b c L:=⟨a',b',c',L2,hc,hm,he⟩
def Nx4 {α β γ δ:Type} (S:α→β→γ→δ→St→St) (C:α→β→γ→δ→Prop) (μ:α→β→γ→δ→Nat) (a:α) (b:β) (c:γ) (d:δ) (L:St):Prop:=∃ a' b' c' d' L2,C a' b' c' d'∧μ a' b' c' d'<μ a b c d∧a7 L (S a' b' c' d' L2)
theorem lp4 {α β γ δ:Type} {P:Program} {Q:LEx→St→Prop} {L:St} {k:Code} (S:α→β→γ→δ→St→St) (C:α→β→γ→δ→Prop) (μ:α→β→γ→δ→Nat) (a:α) (b:β) (c:γ) (d:δ) (hC:C a b c d) (hr:∀ a' b' c' d' L1,C a' b' c' d'→wpL P k (thenL (Nx4 S C μ a' b' c' d') Q) (S a' b' c' d' L1))
  (h0:∃ L1,a7 L (S a b c d L1):=by apply aCB;repeat (first | exact bB cl | refine aA ?_ cl)):wpL P (.loop k) Q L:=by
 refine t7 (α:=α × β × γ × δ) (fun x=>S x.1 x.2.1 x.2.2.1 x.2.2.2) (fun x=>C x.1 x.2.1 x.2.2.1 x.2.2.2) (fun x=>μ x.1 x.2.1 x.2.2.1 x.2.2.2) (a,b,c,d) hC h0 ?_
 rintro⟨a',b',c',d'⟩ L1 hc
 refine lK (fun e L h=>?_) (hr a' b' c' d' L1 hc)
 cases e with
 | normal =>
  obtain⟨a1,b1,c1,d1,L2,h1,h2,h3⟩:=h
  exact⟨(a1,b1,c1,d1),L2,h1,h2,h3⟩
 | exit i=>exact h
 | ret=>exact h
theorem nx4 {α β γ δ:Type} {S:α→β→γ→δ→St→St} {C:α→β→γ→δ→Prop} {μ:α→β→γ→δ→Nat} {a:α} {b:β} {c:γ} {d:δ} {L L2:St} (a':α) (b':β) (c':γ) (d':δ) (hc:C a' b' c' d') (hm:μ a' b' c' d'<μ a b c d:=by omega) (he:a7 L (S a' b' c' d' L2):=by apply a7.of_eq;repeat (first | exact bB cl | refine aA ?_ cl)):Nx4 S C μ a b c d L:=⟨a',b',c',d',L2,hc,hm,he⟩
structure V3 where
 x:Rat
 y:Rat
 z:Rat
instance:Inhabited V3:=⟨⟨0,0,0⟩⟩
def dG (p:V3):LV:=.agg [ratL p.x,ratL p.y,ratL p.z]
theorem cW:EncOK dG 9 true:=by
 refine⟨fun s=>?_,fun s=>rfl,fun s=>?_⟩<;>simp [dG,LV.csize,aL,LV.pure,aV,aD.csize,aD.pure]
structure PoR where
 p:V3
 w:Rat
instance:Inhabited PoR:=⟨⟨⟨0,0,0⟩,0⟩⟩
def eB (q:PoR):LV:=.agg [dG q.p,ratL q.w]
theorem dR:EncOK eB 12 true:=by
 refine⟨fun s=>?_,fun s=>rfl,fun s=>?_⟩<;>simp [eB,LV.csize,aL,LV.pure,aV,aD.csize,aD.pure,cW.csize,cW.pure]
theorem fQ (l:List LV):(LV.agg l).isAgg=true:=rfl
theorem pL (c:Value):(LV.v c).isAgg=false:=rfl
theorem laE {p:Prop} (h:p:=by(simp only [List.forall_mem_cons];simp [lay,LV.csize,aL,fQ,pL,aD.csize,d8.csize,aD.isAgg,d8.isAgg])):p:=h
theorem cs {p:Prop} (h:p:=by first | exact rfl | (simp [LV.csize,aL,lay,fQ,pL,aD.csize,d8.csize,cW.csize,dR.csize,aD.isAgg,d8.isAgg,cW.isAgg,dR.isAgg];done)):p:=h
theorem pu {p:Prop} (h:p:=by first | exact rfl | (simp [LV.pure,aV,aD.pure,d8.pure,cW.pure,dR.pure, *];done)):p:=h
theorem b7 {y:LV} {n:Nat} (hy:y.csize=n) (ha:y.isAgg=true):y.at 0 n true=some y:=by
 cases y with
 | agg l=>simp only [LV.csize] at hy;simp [LV.at,hy]
 | _=>cases ha
theorem yX (a b:Rat):(ratL a).put 0 (ratL b)=some (ratL b):=sL _ _ (by rw [aD.csize,aD.csize]) (by rw [aD.isAgg,aD.isAgg])
theorem aJr (a b:Rat × Rat):(spL a).put 0 (spL b)=some (spL b):=sL _ _ (by rw [d8.csize,d8.csize]) (by rw [d8.isAgg,d8.isAgg])
theorem aKM (s:Rat × Rat) (r:Rat):(spL s).put 0 (ratL r)=some (spL (r,s.2)):=by
 rw [mG,mG];simp [LV.put,pO,aL,aD.csize,aD.isAgg,yX]
theorem aKL (s:Rat × Rat) (r:Rat):(spL s).put 3 (ratL r)=some (spL (s.1,r)):=by
 rw [mG,mG];simp [LV.put,pO,aL,aD.csize,aD.isAgg,yX]
theorem atp {p:Prop} (h:p:=by first | exact b7 (y:=dG _) (cW.csize _) rfl | exact b7 (y:=eB _) (dR.csize _) rfl | exact rfl | (simp only [mB,List.take_succ_cons,List.take_zero,List.take_nil,LV.at,sJ,dG,eB,b7,aH,fN,aF2,aGp,LV.csize,aL,aD.csize,d8.csize,aD.isAgg,d8.isAgg,Nat.reduceAdd,Nat.reduceLT,Nat.reduceSub,Nat.reduceMul,Nat.add_zero,Nat.zero_add,Int.toNat_natCast,Int.reduceToNat,Int.reduceAdd,Nat.reduceEqDiff,reduceIte,and_true,true_and,and_false,false_and,if_true,if_false,Bool.false_eq_true,Bool.true_eq_false,eq_self,Nat.sub_zero,Nat.lt_irrefl,Nat.sub_self,Nat.zero_mul,Nat.zero_lt_succ]<;>exact rfl)):p:=h
theorem ptp {p:Prop} (h:p:=by first | exact rfl | (simp only [mB,List.take_succ_cons,List.take_zero,List.take_nil,LV.put,pO,dG,eB,LV.csize,aL,fQ,pL,aD.csize,d8.csize,aD.isAgg,d8.isAgg,yX,aJr,aKM,aKL,Option.map_some,Nat.reduceAdd,Nat.reduceLT,Nat.reduceSub,Nat.reduceMul,Nat.add_zero,Nat.zero_add,Int.toNat_natCast,Int.reduceToNat,Int.reduceAdd,Nat.reduceEqDiff,reduceIte,and_true,true_and,and_false,false_and,if_true,if_false,Bool.false_eq_true,Bool.true_eq_false,eq_self,Nat.sub_zero,Nat.lt_irrefl,Nat.sub_self,Nat.zero_mul,Nat.zero_lt_succ]<;>exact rfl)):p:=h
section
variable {P:Program} {H:cM} {ρ:Operand→LV} {T E:TypeId} {p x i:Operand} {n sz:Nat} {ag:Bool} {fs:List LV} {r:LV} {k:IntKind} {m:Int} {b o j:Nat}
theorem OpP.ixa [u:UN P T (.array n E)] [t:TI P E sz ag] (hx:ρ x=.agg fs) (hi:ρ i=.v (.int k m)) (h0:0≤m) (hr:fs[m.toNat]?=some r) (hp:r.pure=true) (hf:fs.map lay=List.replicate n (sz,ag)):OpP P H ρ (.index T x i) r:=.idxA hx u.h t.h hf hi h0 hr hp
theorem OpP.ixe [u:UN P T (.array n E)] [t:TI P E sz ag] {s2:Nat} (hx:ρ x=.eptr b s2 j o) (hi:ρ i=.v (.int k m)) (h0:0≤m) (hm:m<n):OpP P H ρ (.indexAddr T x i) (.eptr b s2 j (o+m.toNat*sz)):=.idxAE hx u.h t.h hi h0 hm
theorem OpP.ixb [u:UN P T (.array n E)] [t:TI P E sz ag] (hx:ρ x=.boxp (.agg fs)) (hi:ρ i=.v (.int k m)) (h0:0≤m) (hr:fs[m.toNat]?=some r) (hf:fs.map lay=List.replicate n (sz,ag)):OpP P H ρ (.indexAddr T x i) (.boxp r):=.idxAB hx u.h t.h hf hi h0 hr
theorem OpP.bda {zs:List LV} {ps:Array (Nat × Operand)} [u:UN P T (.array n E)] [t:TI P E sz ag] [z:ZI P T (.agg zs)] (h:∀ z∈zs,lay z=(sz,ag)) (hp:∀ p∈ps.toList,∃ z,zs[p.1]?=some z∧lay (ρ p.2)=lay z∧ρ p.2≠.any∧∀ m,ρ p.2≠.tup m) :
  OpP P H ρ (.build T ps) (.agg (eN zs (ps.toList.map fun p=>(p.1,ρ p.2)))):=.buildA u.h t.h h z.h hp
theorem OpP.bda3 {o0 o1 o2:Operand} {a b c:Rat} [u:UN P T (.array 3 E)] [t:TI P E 3 true] [z:ZI P T (.agg [ratL 0,ratL 0,ratL 0])] (h0:ρ o0=ratL a) (h1:ρ o1=ratL b) (h2:ρ o2=ratL c) :
  OpP P H ρ (.build T #[(0,o0),(1,o1),(2,o2)]) (.agg [ratL a,ratL b,ratL c]):=by
 have:=OpP.bda (H:=H) (ρ:=ρ) (ps:=#[(0,o0),(1,o1),(2,o2)]) (u:=u) (t:=t) (z:=z) (by simp [lay,aD.csize,aD.isAgg]) (by
  intro p hp
  simp only [List.mem_cons,List.not_mem_nil,or_false] at hp
  rcases hp with rfl | rfl | rfl
  ·exact⟨_,rfl,by rw [h0];simp [lay,aD.csize,aD.isAgg],by rw [h0];exact LV.pure_ne_any (aD.pure _),by rw [h0];exact LV.pure_ne_tup (aD.pure _)⟩
  ·exact⟨_,rfl,by rw [h1];simp [lay,aD.csize,aD.isAgg],by rw [h1];exact LV.pure_ne_any (aD.pure _),by rw [h1];exact LV.pure_ne_tup (aD.pure _)⟩
  ·exact⟨_,rfl,by rw [h2];simp [lay,aD.csize,aD.isAgg],by rw [h2];exact LV.pure_ne_any (aD.pure _),by rw [h2];exact LV.pure_ne_tup (aD.pure _)⟩)
 simpa only [eN,List.map,List.foldl,List.set,h0,h1,h2] using this
theorem OpP.bda4 {o0 o1 o2 o3:Operand} {a b c d:Rat} [u:UN P T (.array 4 E)] [t:TI P E 3 true] [z:ZI P T (.agg [ratL 0,ratL 0,ratL 0,ratL 0])] (h0:ρ o0=ratL a) (h1:ρ o1=ratL b) (h2:ρ o2=ratL c) (h3:ρ o3=ratL d) :
  OpP P H ρ (.build T #[(0,o0),(1,o1),(2,o2),(3,o3)]) (.agg [ratL a,ratL b,ratL c,ratL d]):=by
 have:=OpP.bda (H:=H) (ρ:=ρ) (ps:=#[(0,o0),(1,o1),(2,o2),(3,o3)]) (u:=u) (t:=t) (z:=z) (by simp [lay,aD.csize,aD.isAgg]) (by
  intro p hp
  simp only [List.mem_cons,List.not_mem_nil,or_false] at hp
  rcases hp with rfl | rfl | rfl | rfl
  ·exact⟨_,rfl,by rw [h0];simp [lay,aD.csize,aD.isAgg],by rw [h0];exact LV.pure_ne_any (aD.pure _),by rw [h0];exact LV.pure_ne_tup (aD.pure _)⟩
  ·exact⟨_,rfl,by rw [h1];simp [lay,aD.csize,aD.isAgg],by rw [h1];exact LV.pure_ne_any (aD.pure _),by rw [h1];exact LV.pure_ne_tup (aD.pure _)⟩
  ·exact⟨_,rfl,by rw [h2];simp [lay,aD.csize,aD.isAgg],by rw [h2];exact LV.pure_ne_any (aD.pure _),by rw [h2];exact LV.pure_ne_tup (aD.pure _)⟩
  ·exact⟨_,rfl,by rw [h3];simp [lay,aD.csize,aD.isAgg],by rw [h3];exact LV.pure_ne_any (aD.pure _),by rw [h3];exact LV.pure_ne_tup (aD.pure _)⟩)
 simpa only [eN,List.map,List.foldl,List.set,h0,h1,h2,h3] using this
theorem OpP.bda2 {o0 o1:Operand} {a b:Rat} [u:UN P T (.array 2 E)] [t:TI P E 3 true] [z:ZI P T (.agg [ratL 0,ratL 0])] (h0:ρ o0=ratL a) (h1:ρ o1=ratL b):OpP P H ρ (.build T #[(0,o0),(1,o1)]) (.agg [ratL a,ratL b]):=by
 have:=OpP.bda (H:=H) (ρ:=ρ) (ps:=#[(0,o0),(1,o1)]) (u:=u) (t:=t) (z:=z) (by simp [lay,aD.csize,aD.isAgg]) (by
  intro p hp
  simp only [List.mem_cons,List.not_mem_nil,or_false] at hp
  rcases hp with rfl | rfl
  ·exact⟨_,rfl,by rw [h0];simp [lay,aD.csize,aD.isAgg],by rw [h0];exact LV.pure_ne_any (aD.pure _),by rw [h0];exact LV.pure_ne_tup (aD.pure _)⟩
  ·exact⟨_,rfl,by rw [h1];simp [lay,aD.csize,aD.isAgg],by rw [h1];exact LV.pure_ne_any (aD.pure _),by rw [h1];exact LV.pure_ne_tup (aD.pure _)⟩)
 simpa only [eN,List.map,List.foldl,List.set,h0,h1] using this
theorem OpP.bdq3 {o0 o1 o2:Operand} {a b c d e f:Rat} [u:UN P T (.array 3 E)] [t:TI P E 6 true] [z:ZI P T (.agg [.agg [ratL 0,ratL 0],.agg [ratL 0,ratL 0],.agg [ratL 0,ratL 0]])]
  (h0:ρ o0=.agg [ratL a,ratL b]) (h1:ρ o1=.agg [ratL c,ratL d]) (h2:ρ o2=.agg [ratL e,ratL f]):OpP P H ρ (.build T #[(0,o0),(1,o1),(2,o2)]) (.agg [.agg [ratL a,ratL b],.agg [ratL c,ratL d],.agg [ratL e,ratL f]]):=by
 have:=OpP.bda (H:=H) (ρ:=ρ) (ps:=#[(0,o0),(1,o1),(2,o2)]) (u:=u) (t:=t) (z:=z) (by simp [lay,LV.csize,aL,aD.csize,fQ]) (by
  intro p hp
  simp only [List.mem_cons,List.not_mem_nil,or_false] at hp
  rcases hp with rfl | rfl | rfl
  ·exact⟨_,rfl,by rw [h0];simp [lay,LV.csize,aL,aD.csize,fQ],by rw [h0];exact(fun h=>LV.noConfusion h),by rw [h0];exact(fun _ h=>LV.noConfusion h)⟩
  ·exact⟨_,rfl,by rw [h1];simp [lay,LV.csize,aL,aD.csize,fQ],by rw [h1];exact(fun h=>LV.noConfusion h),by rw [h1];exact(fun _ h=>LV.noConfusion h)⟩
  ·exact⟨_,rfl,by rw [h2];simp [lay,LV.csize,aL,aD.csize,fQ],by rw [h2];exact(fun h=>LV.noConfusion h),by rw [h2];exact(fun _ h=>LV.noConfusion h)⟩)
 simpa only [eN,List.map,List.foldl,List.set,h0,h1,h2] using this
theorem OpP.ldp {vals:List LV} {y:LV} {mt:Bool} [t:TI P T n ag] (hp:ρ p=.eptr b sz j o) (hb:H b=some ⟨sz,vals,mt⟩) (hi:vals[j]?=some y) (hy:y.csize=sz) (hr:y.at o n ag=some r):OpP P H ρ (.load T p) r:=.loadE hp hb rfl hi hy hr t.h
theorem OpP.ldbx {c:LV} [t:TI P T n ag] (hp:ρ p=.boxp c) (hc:c.pure=true) (hs:c.csize=n) (ha:c.isAgg=ag):OpP P H ρ (.load T p) c:=.loadB hp (by rw [hs,ha];exact t.h) hc
theorem OpT.stp {L:St} {vals:List LV} {y y' v:LV} {dst:Option Tmp} [t:TI P T n ag] (hp:L.ev p=.eptr b sz j o) (hb:L.heap b=some ⟨sz,vals,true⟩) (hi:vals[j]?=some y) (hx:L.ev x=v) (hy:y.csize=sz) (hv:v.csize=n) (hva:v.isAgg=ag) (hput:y.put o v=some y') (hne:v≠.any∧∀ m,v≠.tup m) :
  OpT P L dst (.store T p x) ((L.setB b (some ⟨sz,vals.set j y',true⟩)).put dst .any):=.store hp hb rfl rfl hi hy (by rw [hx];exact hput) (by rw [hx,hv,hva];exact t.h) (by rw [hx];exact hne)
end
theorem nx_ {z x:LV} {zs:List LV} {k:Nat} (h1:zs[k]?=some z) (h2:lay x=lay z) (h3:x≠.any∧∀ m,x≠.tup m):∃ z,zs[k]?=some z∧lay x=lay z∧x≠.any∧∀ m,x≠.tup m:=⟨z,h1,h2,h3⟩
theorem aIg {p:Prop} (h:p:=by(simp only [List.forall_mem_cons];repeat (first | exact(fun _ h=>by cases h) | refine⟨nx_ rfl cs t8,?_⟩))):p:=h
structure Hold (q:Prop):Prop where
 h:q
theorem rX {P:Program} {H:cM} {ρ:Operand→LV} {T:TypeId} {p:Operand} {x:LV} (h:OpP P H ρ (.load T p) x:=by first | (apply OpP.ldB;exact rfl) | exact .ldRat rfl rfl rfl TI.h | exact .ldSp rfl rfl rfl TI.h | (apply OpP.ldE;exact rfl;exact rfl;exact om) | exact .ldLo rfl rfl rfl TI.h | exact .ldHi rfl rfl rfl TI.h | exact .ldDen rfl rfl rfl TI.h | exact .ldNum rfl rfl rfl TI.h | exact .ldNeg rfl rfl rfl TI.h | exact .loadE rfl rfl rfl rfl rfl rfl TI.h | (apply OpP.ldp;exact rfl;exact rfl;exact rfl;exact cs;exact atp) | (apply OpP.ldbx;exact rfl;exact pu;exact cs;exact cs)):OpP P H ρ (.load T p) x:=h
section
variable {P:Program} {H:cM} {ρ:Operand→LV} {T U:TypeId} {x y:Operand}
theorem OpP.aI {a b:Int} (hx:ρ x=.v (.int .i64 a)) (hy:ρ y=.v (.int .i64 b)) (h1:-9223372036854775808≤a+b) (h2:a+b≤9223372036854775807):OpP P H ρ (.binOp .add T x y U) (.v (.int .i64 (a+b))):=.bin hx hy (oE h1 h2)
theorem OpP.sI {a b:Int} (hx:ρ x=.v (.int .i64 a)) (hy:ρ y=.v (.int .i64 b)) (h1:-9223372036854775808≤a-b) (h2:a-b≤9223372036854775807):OpP P H ρ (.binOp .sub T x y U) (.v (.int .i64 (a-b))):=.bin hx hy (lI h1 h2)
theorem OpP.mI {a b:Int} (hx:ρ x=.v (.int .i64 a)) (hy:ρ y=.v (.int .i64 b)) (h1:-9223372036854775808≤a*b) (h2:a*b≤9223372036854775807):OpP P H ρ (.binOp .mul T x y U) (.v (.int .i64 (a*b))):=.bin hx hy (xF h1 h2)
theorem OpP.aU {a b:Nat} (hx:ρ x=.v (.int .u64 (a:Nat))) (hy:ρ y=.v (.int .u64 (b:Nat))) (h:a+b<18446744073709551616):OpP P H ρ (.binOp .add T x y U) (.v (.int .u64 ((a+b:Nat):Int))):=.bin hx hy (aLK h)
theorem OpP.mU {a b:Nat} (hx:ρ x=.v (.int .u64 (a:Nat))) (hy:ρ y=.v (.int .u64 (b:Nat))) (h:a*b<18446744073709551616):OpP P H ρ (.binOp .mul T x y U) (.v (.int .u64 ((a*b:Nat):Int))):=.bin hx hy (vS h)
theorem OpP.sU {a b:Nat} (hx:ρ x=.v (.int .u64 (a:Nat))) (hy:ρ y=.v (.int .u64 (b:Nat))) (h:b≤a) (h1:a<18446744073709551616):OpP P H ρ (.binOp .sub T x y U) (.v (.int .u64 ((a-b:Nat):Int))):=.bin hx hy (aLv h h1)
theorem OpP.qU {a b:Nat} (hx:ρ x=.v (.int .u64 (a:Nat))) (hy:ρ y=.v (.int .u64 (b:Nat))) (h:0<b) (h1:a<18446744073709551616):OpP P H ρ (.binOp .quo T x y U) (.v (.int .u64 ((a/b:Nat):Int))):=.bin hx hy (aBu h h1)
theorem OpP.rU {a b:Nat} (hx:ρ x=.v (.int .u64 (a:Nat))) (hy:ρ y=.v (.int .u64 (b:Nat))) (h:0<b):OpP P H ρ (.binOp .rem T x y U) (.v (.int .u64 ((a % b:Nat):Int))):=.bin hx hy (aKr h)
theorem OpP.oU {a b:Nat} (hx:ρ x=.v (.int .u64 ((a*4294967296:Nat):Int))) (hy:ρ y=.v (.int .u64 (b:Nat))) (h:b<4294967296) (h1:a<4294967296):OpP P H ρ (.binOp .or T x y U) (.v (.int .u64 ((a*4294967296+b:Nat):Int))):=.bin hx hy (orU h h1)
theorem OpP.hl {a:Nat} {k:IntKind} (hx:ρ x=.v (.int .u64 (a:Nat))) (hy:ρ y=.v (.int k 32)) (h:a*4294967296<18446744073709551616):OpP P H ρ (.binOp .shl T x y U) (.v (.int .u64 ((a*4294967296:Nat):Int))):=.sh hx hy (aA4 h)
theorem OpP.hr {a:Nat} {k:IntKind} (hx:ρ x=.v (.int .u64 (a:Nat))) (hy:ρ y=.v (.int k 32)):OpP P H ρ (.binOp .shr T x y U) (.v (.int .u64 ((a/4294967296:Nat):Int))):=.sh hx hy aLG
theorem OpP.hs63 {a:Nat} {k:IntKind} (hx:ρ x=.v (.int .u64 (a:Nat))) (hy:ρ y=.v (.int k 63)):OpP P H ρ (.binOp .shr T x y U) (.v (.int .u64 ((a/9223372036854775808:Nat):Int))):=.sh hx hy aLq
end
theorem biA {P:Program} {H:cM} {ρ:Operand→LV} {o:BinOp} {T U:TypeId} {p y:Operand} {x:LV} (h:OpP P H ρ (.binOp o T p y U) x:=by first | (apply OpP.cmp;exact rfl;exact rfl;exact rfl;exact rfl) | (apply OpP.aI;exact rfl;exact rfl;exact om;exact om) | (apply OpP.sI;exact rfl;exact rfl;exact om;exact om) | (apply OpP.mI;exact rfl;exact rfl;exact om;exact om) | (apply OpP.aU;exact rfl;exact rfl;exact om) | (apply OpP.mU;exact rfl;exact rfl;exact om) | (apply OpP.sU;exact rfl;exact rfl;exact om;exact om) | (apply OpP.qU;exact rfl;exact rfl;exact om;exact om) | (apply OpP.rU;exact rfl;exact rfl;exact om) | (apply OpP.oU;exact rfl;exact rfl;exact om;exact om) | (apply OpP.hl;exact rfl;exact rfl;exact om) | (apply OpP.hr;exact rfl;exact rfl) | (apply OpP.hs63;exact rfl;exact rfl) | (apply OpP.beq;exact rfl;exact rfl;exact UN.h) | (apply OpP.bne;exact rfl;exact rfl;exact UN.h)):OpP P H ρ (.binOp o T p y U) x:=h
theorem lnA {P:Program} {H:cM} {ρ:Operand→LV} {b:Builtin} {xs:Array Operand} {as:Array TypeId} {x:LV} (h:OpP P H ρ (.call ⟨.builtin b,xs,as⟩) x:=by first | exact .lenLm rfl rfl UN.h | exact .lenL rfl rfl UN.h | exact .lenR rfl rfl UN.h | exact .lenN rfl rfl UN.h | exact .min2 rfl rfl | exact .max2 rfl rfl):OpP P H ρ (.call ⟨.builtin b,xs,as⟩) x:=h
theorem srA {P:Program} {L L':St} {dst:Option Tmp} {T:TypeId} {p x:Operand} (h:OpT P L dst (.store T p x) L':=by first | exact .stRat rfl rfl rfl rfl TI.h | exact .stR1 rfl rfl rfl TI.h | exact .stSp rfl rfl rfl TI.h | (apply OpT.stE;exact rfl;exact rfl;exact rfl;exact om) | exact .store rfl rfl rfl rfl rfl rfl rfl TI.h t8 | (apply OpT.stp;exact rfl;exact rfl;exact rfl;(first | exact(rfl:_=ratL _) | exact(rfl:_=dG _) | exact(rfl:_=eB _) | exact(rfl:_=spL _) | exact(rfl:_=LV.agg _) | exact rfl);exact cs;exact cs;exact cs;exact ptp;exact t8)):OpT P L dst (.store T p x) L':=h
theorem cvA {P:Program} {H:cM} {ρ:Operand→LV} {S D:TypeId} {p:Operand} {x:LV} (h:OpP P H ρ (.convert S D p) x:=by first | exact .cv32 UN.h UN.h rfl | (apply OpP.cv64;exact UN.h;exact UN.h;exact rfl;exact om) | (apply OpP.cvI;exact UN.h;exact UN.h;exact rfl;exact om;exact om) | exact .conv UN.h UN.h rfl):OpP P H ρ (.convert S D p) x:=h
theorem aJV {P:Program} {T:TypeId} {l:List (Nat × Bool)} {fs:List LV} (h:cT P T l) (e:fs.map lay=l):cT P T (fs.map lay):=e ▸ h
theorem aLb {P:Program} {H:cM} {ρ:Operand→LV} {T:TypeId} {p i:Operand} {x:LV} (h:OpP P H ρ (.index T p i) x:=by(apply OpP.ixa;exact rfl;exact rfl;exact om;exact rfl;exact pu;exact cs)):OpP P H ρ (.index T p i) x:=h
theorem faA {P:Program} {H:cM} {ρ:Operand→LV} {T:TypeId} {p:Operand} {k:Nat} {x:LV} (h:OpP P H ρ (.fieldAddr T p k) x:=by first | exact .fieldAddrE rfl SI.h (by decide) | exact .fieldAddrB rfl SI.h rfl | (refine .fieldAddrB rfl (aJV SI.h cs) rfl)):OpP P H ρ (.fieldAddr T p k) x:=h
theorem ixA {P:Program} {H:cM} {ρ:Operand→LV} {T:TypeId} {p i:Operand} {x:LV} (h:OpP P H ρ (.indexAddr T p i) x:=by first | (apply OpP.ixL;exact rfl;exact rfl;exact om;exact om) | (apply OpP.ixR;exact rfl;exact rfl;exact om;exact om) | (apply OpP.ixe;exact rfl;exact rfl;exact om;exact om) | (apply OpP.ixb;exact rfl;exact rfl;exact om;exact rfl;exact cs)):OpP P H ρ (.indexAddr T p i) x:=h
section
variable {P:Program} {dr:Bool} {ops:Array Oper} {rest:List Oper} {L L':St} {K:St→Prop} {dst:Option Tmp} {d:Nat} {ty:TypeId} {pos:String} {af:Array Edge} {j:Nat} {w:Bool} {r:LV} {bk:Blk}
theorem aM7 {T:TypeId} {p:Operand} (h:OpP P L.heap L.ev (.load T p) r) (kk:opsL P dr ops rest (L.put dst r) K):opsL P dr ops (⟨dst,(.load T p),ty,pos,af,none⟩ :: rest) L K:=aB rfl h kk
theorem aNy {T:TypeId} {p:Operand} (hg:bS ops L ⟨dst,(.load T p),ty,pos,af,some (j,w)⟩ true) (h:OpP P L.heap L.ev (.load T p) r) (kk:opsL P dr ops rest (L.put dst r) K):opsL P dr ops (⟨dst,(.load T p),ty,pos,af,some (j,w)⟩ :: rest) L K:=aB hg h kk
theorem aMY {o:BinOp} {T U:TypeId} {p y:Operand} (h:OpP P L.heap L.ev (.binOp o T p y U) r) (kk:opsL P dr ops rest (L.put dst r) K):opsL P dr ops (⟨dst,(.binOp o T p y U),ty,pos,af,none⟩ :: rest) L K:=aB rfl h kk
theorem aNg {o:BinOp} {T U:TypeId} {p y:Operand} (hg:bS ops L ⟨dst,(.binOp o T p y U),ty,pos,af,some (j,w)⟩ true) (h:OpP P L.heap L.ev (.binOp o T p y U) r) (kk:opsL P dr ops rest (L.put dst r) K):opsL P dr ops (⟨dst,(.binOp o T p y U),ty,pos,af,some (j,w)⟩ :: rest) L K:=aB hg h kk
theorem aOw {b:Builtin} {xs:Array Operand} {as:Array TypeId} (h:OpP P L.heap L.ev (.call ⟨.builtin b,xs,as⟩) r) (kk:opsL P dr ops rest (L.put dst r) K):opsL P dr ops (⟨dst,(.call ⟨.builtin b,xs,as⟩),ty,pos,af,none⟩ :: rest) L K:=aB rfl h kk
theorem aM1 {b:Builtin} {xs:Array Operand} {as:Array TypeId} (hg:bS ops L ⟨dst,(.call ⟨.builtin b,xs,as⟩),ty,pos,af,some (j,w)⟩ true) (h:OpP P L.heap L.ev (.call ⟨.builtin b,xs,as⟩) r) (kk:opsL P dr ops rest (L.put dst r) K):opsL P dr ops (⟨dst,(.call ⟨.builtin b,xs,as⟩),ty,pos,af,some (j,w)⟩ :: rest) L K:=aB hg h kk
theorem aNM {T:TypeId} {p:Operand} {k:Nat} (h:OpP P L.heap L.ev (.fieldAddr T p k) r) (kk:opsL P dr ops rest (L.put dst r) K):opsL P dr ops (⟨dst,(.fieldAddr T p k),ty,pos,af,none⟩ :: rest) L K:=aB rfl h kk
theorem aNa {T:TypeId} {p:Operand} {k:Nat} (hg:bS ops L ⟨dst,(.fieldAddr T p k),ty,pos,af,some (j,w)⟩ true) (h:OpP P L.heap L.ev (.fieldAddr T p k) r) (kk:opsL P dr ops rest (L.put dst r) K):opsL P dr ops (⟨dst,(.fieldAddr T p k),ty,pos,af,some (j,w)⟩ :: rest) L K:=aB hg h kk
theorem aOq {T:TypeId} {p y:Operand} (h:OpP P L.heap L.ev (.index T p y) r) (kk:opsL P dr ops rest (L.put dst r) K):opsL P dr ops (⟨dst,(.index T p y),ty,pos,af,none⟩ :: rest) L K:=aB rfl h kk
theorem aNv {T:TypeId} {p y:Operand} (hg:bS ops L ⟨dst,(.index T p y),ty,pos,af,some (j,w)⟩ true) (h:OpP P L.heap L.ev (.index T p y) r) (kk:opsL P dr ops rest (L.put dst r) K):opsL P dr ops (⟨dst,(.index T p y),ty,pos,af,some (j,w)⟩ :: rest) L K:=aB hg h kk
theorem aOf {T:TypeId} {p y:Operand} (h:OpP P L.heap L.ev (.indexAddr T p y) r) (kk:opsL P dr ops rest (L.put dst r) K):opsL P dr ops (⟨dst,(.indexAddr T p y),ty,pos,af,none⟩ :: rest) L K:=aB rfl h kk
theorem aMD {T:TypeId} {p y:Operand} (hg:bS ops L ⟨dst,(.indexAddr T p y),ty,pos,af,some (j,w)⟩ true) (h:OpP P L.heap L.ev (.indexAddr T p y) r) (kk:opsL P dr ops rest (L.put dst r) K):opsL P dr ops (⟨dst,(.indexAddr T p y),ty,pos,af,some (j,w)⟩ :: rest) L K:=aB hg h kk
theorem aNc {p:Operand} {k:Nat} (h:OpP P L.heap L.ev (.extract p k) r) (kk:opsL P dr ops rest (L.put dst r) K):opsL P dr ops (⟨dst,(.extract p k),ty,pos,af,none⟩ :: rest) L K:=aB rfl h kk
theorem aMO {p:Operand} {k:Nat} (hg:bS ops L ⟨dst,(.extract p k),ty,pos,af,some (j,w)⟩ true) (h:OpP P L.heap L.ev (.extract p k) r) (kk:opsL P dr ops rest (L.put dst r) K):opsL P dr ops (⟨dst,(.extract p k),ty,pos,af,some (j,w)⟩ :: rest) L K:=aB hg h kk
theorem aN7 {p y z:Operand} (h:OpP P L.heap L.ev (.pick p y z) r) (kk:opsL P dr ops rest (L.put dst r) K):opsL P dr ops (⟨dst,(.pick p y z),ty,pos,af,none⟩ :: rest) L K:=aB rfl h kk
theorem aNW {p y z:Operand} (hg:bS ops L ⟨dst,(.pick p y z),ty,pos,af,some (j,w)⟩ true) (h:OpP P L.heap L.ev (.pick p y z) r) (kk:opsL P dr ops rest (L.put dst r) K):opsL P dr ops (⟨dst,(.pick p y z),ty,pos,af,some (j,w)⟩ :: rest) L K:=aB hg h kk
theorem aNX {T U:TypeId} {p:Operand} (h:OpP P L.heap L.ev (.convert T U p) r) (kk:opsL P dr ops rest (L.put dst r) K):opsL P dr ops (⟨dst,(.convert T U p),ty,pos,af,none⟩ :: rest) L K:=aB rfl h kk
theorem aOD {T U:TypeId} {p:Operand} (hg:bS ops L ⟨dst,(.convert T U p),ty,pos,af,some (j,w)⟩ true) (h:OpP P L.heap L.ev (.convert T U p) r) (kk:opsL P dr ops rest (L.put dst r) K):opsL P dr ops (⟨dst,(.convert T U p),ty,pos,af,some (j,w)⟩ :: rest) L K:=aB hg h kk
theorem aN4 {u:UnOp} {T:TypeId} {p:Operand} (h:OpP P L.heap L.ev (.unOp u T p) r) (kk:opsL P dr ops rest (L.put dst r) K):opsL P dr ops (⟨dst,(.unOp u T p),ty,pos,af,none⟩ :: rest) L K:=aB rfl h kk
theorem aON {u:UnOp} {T:TypeId} {p:Operand} (hg:bS ops L ⟨dst,(.unOp u T p),ty,pos,af,some (j,w)⟩ true) (h:OpP P L.heap L.ev (.unOp u T p) r) (kk:opsL P dr ops rest (L.put dst r) K):opsL P dr ops (⟨dst,(.unOp u T p),ty,pos,af,some (j,w)⟩ :: rest) L K:=aB hg h kk
theorem aOb {T:TypeId} {p:Operand} {k:Nat} (h:OpP P L.heap L.ev (.field T p k) r) (kk:opsL P dr ops rest (L.put dst r) K):opsL P dr ops (⟨dst,(.field T p k),ty,pos,af,none⟩ :: rest) L K:=aB rfl h kk
theorem aNS {T:TypeId} {p:Operand} {k:Nat} (hg:bS ops L ⟨dst,(.field T p k),ty,pos,af,some (j,w)⟩ true) (h:OpP P L.heap L.ev (.field T p k) r) (kk:opsL P dr ops rest (L.put dst r) K):opsL P dr ops (⟨dst,(.field T p k),ty,pos,af,some (j,w)⟩ :: rest) L K:=aB hg h kk
theorem aNb {p:Operand} (h:OpP P L.heap L.ev (.nilCheck p) r) (kk:opsL P dr ops rest (L.put dst r) K):opsL P dr ops (⟨dst,(.nilCheck p),ty,pos,af,none⟩ :: rest) L K:=aB rfl h kk
theorem aOt {p:Operand} (hg:bS ops L ⟨dst,(.nilCheck p),ty,pos,af,some (j,w)⟩ true) (h:OpP P L.heap L.ev (.nilCheck p) r) (kk:opsL P dr ops rest (L.put dst r) K):opsL P dr ops (⟨dst,(.nilCheck p),ty,pos,af,some (j,w)⟩ :: rest) L K:=aB hg h kk
theorem w8 {T:TypeId} {ps:Array (Nat × Operand)} (h:OpP P L.heap L.ev (.build T ps) r) (kk:opsL P dr ops rest (L.put dst r) K):opsL P dr ops (⟨dst,(.build T ps),ty,pos,af,none⟩ :: rest) L K:=aB rfl h kk
theorem aNd {T:TypeId} {ps:Array (Nat × Operand)} (hg:bS ops L ⟨dst,(.build T ps),ty,pos,af,some (j,w)⟩ true) (h:OpP P L.heap L.ev (.build T ps) r) (kk:opsL P dr ops rest (L.put dst r) K):opsL P dr ops (⟨dst,(.build T ps),ty,pos,af,some (j,w)⟩ :: rest) L K:=aB hg h kk
theorem aOn {p:Operand} (hg:bS ops L ⟨dst,(.move p),ty,pos,af,some (j,w)⟩ true) (h:OpP P L.heap L.ev (.move p) r) (kk:opsL P dr ops rest (L.put dst r) K):opsL P dr ops (⟨dst,(.move p),ty,pos,af,some (j,w)⟩ :: rest) L K:=aB hg h kk
theorem aMJ {p:Operand} (hg:bS ops L ⟨dst,(.assign p),ty,pos,af,some (j,w)⟩ true) (h:OpP P L.heap L.ev (.assign p) r) (kk:opsL P dr ops rest (L.put dst r) K):opsL P dr ops (⟨dst,(.assign p),ty,pos,af,some (j,w)⟩ :: rest) L K:=aB hg h kk
theorem aOH {T:TypeId} {p:Operand} (hd:L.heap d=none) (h:OpA P L.ev d (.box T p) r bk) (kk:opsL P dr ops rest ((L.setB d (some bk)).put (some d) r) K):opsL P dr ops (⟨some d,(.box T p),ty,pos,af,none⟩ :: rest) L K:=b9 rfl hd h kk
theorem aOs {T:TypeId} {p:Operand} (hg:bS ops L ⟨some d,(.box T p),ty,pos,af,some (j,w)⟩ true) (hd:L.heap d=none) (h:OpA P L.ev d (.box T p) r bk) (kk:opsL P dr ops rest ((L.setB d (some bk)).put (some d) r) K):opsL P dr ops (⟨some d,(.box T p),ty,pos,af,some (j,w)⟩ :: rest) L K:=b9 hg hd h kk
theorem aM6 {T:TypeId} (hd:L.heap d=none) (h:OpA P L.ev d (.alloc T) r bk) (kk:opsL P dr ops rest ((L.setB d (some bk)).put (some d) r) K):opsL P dr ops (⟨some d,(.alloc T),ty,pos,af,none⟩ :: rest) L K:=b9 rfl hd h kk
theorem aNR {T:TypeId} (hg:bS ops L ⟨some d,(.alloc T),ty,pos,af,some (j,w)⟩ true) (hd:L.heap d=none) (h:OpA P L.ev d (.alloc T) r bk) (kk:opsL P dr ops rest ((L.setB d (some bk)).put (some d) r) K):opsL P dr ops (⟨some d,(.alloc T),ty,pos,af,some (j,w)⟩ :: rest) L K:=b9 hg hd h kk
theorem aM2 {T:TypeId} {n:Nat} {ps:Array (Nat × Operand)} (hd:L.heap d=none) (h:OpA P L.ev d (.buildSlice T n ps) r bk) (kk:opsL P dr ops rest ((L.setB d (some bk)).put (some d) r) K):opsL P dr ops (⟨some d,(.buildSlice T n ps),ty,pos,af,none⟩ :: rest) L K:=b9 rfl hd h kk
theorem aNk {T:TypeId} {n:Nat} {ps:Array (Nat × Operand)} (hg:bS ops L ⟨some d,(.buildSlice T n ps),ty,pos,af,some (j,w)⟩ true) (hd:L.heap d=none) (h:OpA P L.ev d (.buildSlice T n ps) r bk) (kk:opsL P dr ops rest ((L.setB d (some bk)).put (some d) r) K):opsL P dr ops (⟨some d,(.buildSlice T n ps),ty,pos,af,some (j,w)⟩ :: rest) L K:=b9 hg hd h kk
theorem aNK {T:TypeId} {p y:Operand} (h:OpT P L dst (.store T p y) L') (kk:opsL P dr ops rest L' K):opsL P dr ops (⟨dst,.store T p y,ty,pos,af,none⟩ :: rest) L K:=bC rfl h kk
theorem aML {T:TypeId} {p y:Operand} (hg:bS ops L ⟨dst,.store T p y,ty,pos,af,some (j,w)⟩ true) (h:OpT P L dst (.store T p y) L') (kk:opsL P dr ops rest L' K):opsL P dr ops (⟨dst,.store T p y,ty,pos,af,some (j,w)⟩ :: rest) L K:=bC hg h kk
theorem aN2 {op:Op} (hg:bS ops L ⟨dst,op,ty,pos,af,some (j,w)⟩ false) (kk:opsL P dr ops rest (L.put dst (.tup [])) K):opsL P dr ops (⟨dst,op,ty,pos,af,some (j,w)⟩ :: rest) L K:=cE hg kk
end
theorem y9 {p:Prop} (h:p:=by first | exact aO (v:=true) rfl rfl as0 rfl | exact aO (v:=false) rfl rfl as0 rfl):p:=h
theorem zGf {p:Prop} (h:p:=by first | exact aO (v:=true) rfl rfl as0 rfl | exact aO (v:=false) rfl rfl as0 rfl | exact aKi rfl rfl):p:=h
theorem pF {p q:Prop} (k:q) (h:Hold q→p:=by intro kk;first | (apply aJm;exact kk.h) | (apply aKh;exact kk.h) | (apply mv;exact kk.h) | (apply asg;exact kk.h) | (apply jB;exact nf;exact kk.h) | (apply aJ1;exact kk.h) | (apply aM7;exact rX;exact kk.h) | (apply aMY;exact biA;exact kk.h) | (apply aOw;exact lnA;exact kk.h) | (apply aNM;exact faA;exact kk.h) | (apply aOf;exact ixA;exact kk.h) | (apply aOq;exact aLb;exact kk.h) | (apply aNc;exact .extract rfl rfl nt0;exact kk.h) | (apply aNK;exact srA;exact kk.h) | (apply aOH;exact rfl;(first | (apply OpA.bxE;exact rfl) | exact .box t8);exact kk.h) | (apply aM6;exact rfl;(first | exact .alE | exact .alloc ZI.h);exact kk.h) | (apply aN7;(first | exact .pickT rfl as0 | exact .pickF rfl as0);exact kk.h) | (apply aNX;exact cvA;exact kk.h) | (apply aN4;(first | exact .not rfl | exact .neg rfl);exact kk.h) | (apply aOb;(first | exact .field rfl SI.h rfl rfl | exact .field rfl (aJV SI.h cs) rfl pu);exact kk.h) | (apply aM2;exact rfl;(first | (apply OpA.l1;exact rfl;decide;decide) | exact .l0 | (apply OpA.l2;exact rfl;exact rfl;decide;decide) | (apply OpA.l3;exact rfl;exact rfl;exact rfl;decide;decide) | (apply OpA.l4;exact rfl;exact rfl;exact rfl;exact rfl;decide;decide));exact kk.h) | (apply w8;(first | exact .bda3 rfl rfl rfl | exact .bda4 rfl rfl rfl rfl | exact .bda2 rfl rfl | exact .bdq3 rfl rfl rfl | exact .buildSp SI.h ZI.h rfl rfl | exact .bd rfl nes | exact .bd cs aIg | exact .bda laE aIg);exact kk.h) | (apply aNb;(first | exact .nilChkE rfl | exact .nilChkB rfl);exact kk.h) | (apply aIr;exact kk.h) | (apply aFg;exact kk.h) | (apply aKl;exact kk.h) | (apply aL2;exact kk.h) | (apply aL8;exact kk.h) | (apply aY;exact rfl;exact as0;exact kk.h) | (apply bO;exact rfl;exact as0;exact kk.h) | (apply aKF;exact kk.h) | (apply aKT;exact kk.h) | (apply aIA;exact kk.h) | (apply aL6;exact kk.h) | (apply aLL;decide;exact kk.h) | (apply aN2;exact zGf;exact kk.h) | (apply aOn;exact y9;(exact .move _);exact kk.h) | (apply aNy;exact y9;(exact rX);exact kk.h) | (apply aNg;exact y9;(exact biA);exact kk.h) | (apply aM1;exact y9;(exact lnA);exact kk.h) | (apply aNa;exact y9;(exact faA);exact kk.h) | (apply aMD;exact y9;(exact ixA);exact kk.h) | (apply aNv;exact y9;(exact aLb);exact kk.h) | (apply aMO;exact y9;(exact .extract rfl rfl nt0);exact kk.h) | (apply aML;exact y9;exact srA;exact kk.h) | (apply aMJ;exact y9;(exact .assign _);exact kk.h) | (apply aOs;exact y9;exact rfl;(first | (apply OpA.bxE;exact rfl) | exact .box t8);exact kk.h) | (apply aNR;exact y9;exact rfl;(first | exact .alE | exact .alloc ZI.h);exact kk.h) | (apply aNW;exact y9;(first | exact .pickT rfl as0 | exact .pickF rfl as0);exact kk.h) | (apply aOD;exact y9;(exact cvA);exact kk.h) | (apply aON;exact y9;(first | exact .not rfl | exact .neg rfl);exact kk.h) | (apply aNS;exact y9;(first | exact .field rfl SI.h rfl rfl | exact .field rfl (aJV SI.h cs) rfl pu);exact kk.h) | (apply aNk;exact y9;exact rfl;(first | (apply OpA.l1;exact rfl;decide;decide) | exact .l0 | (apply OpA.l2;exact rfl;exact rfl;decide;decide) | (apply OpA.l3;exact rfl;exact rfl;exact rfl;decide;decide) | (apply OpA.l4;exact rfl;exact rfl;exact rfl;exact rfl;decide;decide));exact kk.h) | (apply aNd;exact y9;(first | exact .buildSp SI.h ZI.h rfl rfl | exact .bd rfl nes | exact .bd cs aIg | exact .bda laE aIg);exact kk.h) | (apply aOt;exact y9;(first | exact .nilChkE rfl | exact .nilChkB rfl);exact kk.h)):p:=h ⟨k⟩
theorem bD {p q:Prop} (k:q) (h:Hold q→p:=by intro hq;(iterate 1 refine pF ?_);exact hq.h):p:=h ⟨k⟩
theorem cU {p q:Prop} (k:q) (h:Hold q→p:=by intro hq;(iterate 2 refine pF ?_);exact hq.h):p:=h ⟨k⟩
theorem dI {p q:Prop} (k:q) (h:Hold q→p:=by intro hq;(iterate 3 refine pF ?_);exact hq.h):p:=h ⟨k⟩
theorem cB {p q:Prop} (k:q) (h:Hold q→p:=by intro hq;(iterate 4 refine pF ?_);exact hq.h):p:=h ⟨k⟩
theorem dX {p q:Prop} (k:q) (h:Hold q→p:=by intro hq;(iterate 5 refine pF ?_);exact hq.h):p:=h ⟨k⟩
theorem bY {p q:Prop} (k:q) (h:Hold q→p:=by intro hq;(iterate 6 refine pF ?_);exact hq.h):p:=h ⟨k⟩
theorem dP {p q:Prop} (k:q) (h:Hold q→p:=by intro hq;(iterate 7 refine pF ?_);exact hq.h):p:=h ⟨k⟩
theorem eI {p q:Prop} (k:q) (h:Hold q→p:=by intro hq;(iterate 8 refine pF ?_);exact hq.h):p:=h ⟨k⟩
theorem eP {p q:Prop} (k:q) (h:Hold q→p:=by intro hq;(iterate 9 refine pF ?_);exact hq.h):p:=h ⟨k⟩
theorem cG {p q:Prop} (k:q) (h:Hold q→p:=by intro hq;(iterate 10 refine pF ?_);exact hq.h):p:=h ⟨k⟩
theorem cQ {p q:Prop} (k:q) (h:Hold q→p:=by intro hq;(iterate 11 refine pF ?_);exact hq.h):p:=h ⟨k⟩
theorem cH {p q:Prop} (k:q) (h:Hold q→p:=by intro hq;(iterate 12 refine pF ?_);exact hq.h):p:=h ⟨k⟩
theorem fI {p q:Prop} (k:q) (h:Hold q→p:=by intro hq;(iterate 13 refine pF ?_);exact hq.h):p:=h ⟨k⟩
theorem eX {p q:Prop} (k:q) (h:Hold q→p:=by intro hq;(iterate 14 refine pF ?_);exact hq.h):p:=h ⟨k⟩
theorem iR {p q:Prop} (k:q) (h:Hold q→p:=by intro hq;(iterate 15 refine pF ?_);exact hq.h):p:=h ⟨k⟩
theorem n8 {p q:Prop} (k:q) (h:Hold q→p:=by intro hq;(iterate 16 refine pF ?_);exact hq.h):p:=h ⟨k⟩
theorem jT {p q:Prop} (k:q) (h:Hold q→p:=by intro hq;(iterate 17 refine pF ?_);exact hq.h):p:=h ⟨k⟩
theorem oB {p q:Prop} (k:q) (h:Hold q→p:=by intro hq;(iterate 18 refine pF ?_);exact hq.h):p:=h ⟨k⟩
theorem qG {p q:Prop} (k:q) (h:Hold q→p:=by intro hq;(iterate 19 refine pF ?_);exact hq.h):p:=h ⟨k⟩
theorem nH {p q:Prop} (k:q) (h:Hold q→p:=by intro hq;(iterate 20 refine pF ?_);exact hq.h):p:=h ⟨k⟩
theorem aCu {p q:Prop} (k:q) (h:Hold q→p:=by intro hq;(iterate 21 refine pF ?_);exact hq.h):p:=h ⟨k⟩
theorem aJ6 {p q:Prop} (k:q) (h:Hold q→p:=by intro hq;(iterate 22 refine pF ?_);exact hq.h):p:=h ⟨k⟩
theorem aAw {p q:Prop} (k:q) (h:Hold q→p:=by intro hq;(iterate 23 refine pF ?_);exact hq.h):p:=h ⟨k⟩
theorem aBC {p q:Prop} (k:q) (h:Hold q→p:=by intro hq;(iterate 24 refine pF ?_);exact hq.h):p:=h ⟨k⟩
theorem yC {p q:Prop} (k:q) (h:Hold q→p:=by intro hq;(iterate 25 refine pF ?_);exact hq.h):p:=h ⟨k⟩
theorem aOu {p q:Prop} (k:q) (h:Hold q→p:=by intro hq;(iterate 26 refine pF ?_);exact hq.h):p:=h ⟨k⟩
theorem aK8 {p q:Prop} (k:q) (h:Hold q→p:=by intro hq;(iterate 27 refine pF ?_);exact hq.h):p:=h ⟨k⟩
theorem aKv {p q:Prop} (k:q) (h:Hold q→p:=by intro hq;(iterate 28 refine pF ?_);exact hq.h):p:=h ⟨k⟩
theorem aLW {p q:Prop} (k:q) (h:Hold q→p:=by intro hq;(iterate 31 refine pF ?_);exact hq.h):p:=h ⟨k⟩
theorem aNH {p q:Prop} (k:q) (h:Hold q→p:=by intro hq;(iterate 33 refine pF ?_);exact hq.h):p:=h ⟨k⟩
theorem aK2 {p q:Prop} (k:q) (h:Hold q→p:=by intro hq;(iterate 34 refine pF ?_);exact hq.h):p:=h ⟨k⟩
theorem aNz {p q:Prop} (k:q) (h:Hold q→p:=by intro hq;(iterate 49 refine pF ?_);exact hq.h):p:=h ⟨k⟩
theorem aN3 {p q:Prop} (k:q) (h:Hold q→p:=by intro hq;(iterate 54 refine pF ?_);exact hq.h):p:=h ⟨k⟩
theorem aN9 {p q:Prop} (k:q) (h:Hold q→p:=by intro hq;(iterate 57 refine pF ?_);exact hq.h):p:=h ⟨k⟩
end Go.Lg
end
