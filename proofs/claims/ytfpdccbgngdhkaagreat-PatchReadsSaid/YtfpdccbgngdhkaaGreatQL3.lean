/- Texts LgY, LgR, LgG of this proof, joined. -/
import Derived.Test.YtfpdccbgngdhkaaGreatQL2
import Derived.Laws.Cover3
set_option linter.unusedVariables false
set_option linter.unusedSimpArgs false
section
set_option linter.unusedVariables false
set_option linter.unusedSimpArgs false
namespace Go.Lg
def val:List Nat→Nat
 | []=>0
 | x :: xs=>x+4294967296*val xs
def di (l:List Nat):Prop:=∀ x∈l,x<4294967296
def rH:Nat→Nat→List Nat
 | 0,_=>[]
 | k+1,n=>if n=0 then [] else n % 4294967296 :: rH k (n/4294967296)
def aE (n:Nat):List Nat:=rH n n
theorem jR:∀ k,rH k 0=[]
 | 0=>rfl
 | k+1=>by simp [rH]
theorem pC:∀ (k j n:Nat),n≤k→n≤j→rH k n=rH j n
 | 0,j,n,h,_=>by
   have:n=0:=by omega
   subst this;rw [jR,jR]
 | k+1,0,n,_,h=>by
   have:n=0:=by omega
   subst this;rw [jR,jR]
 | k+1,j+1,n,h1,h2=>by
   simp only [rH]
   split
   ·rfl
   ·rw [pC k j (n/4294967296) (by omega) (by omega)]
theorem eT:aE 0=[]:=rfl
theorem gS {n:Nat} (h:0<n):aE n=n % 4294967296 :: aE (n/4294967296):=by
 unfold aE
 obtain⟨k,rfl⟩:∃ k,n=k+1:=⟨n-1,by omega⟩
 rw [rH,if_neg (by omega),pC k ((k+1)/4294967296) _ (by omega) (Nat.le_refl _)]
theorem az (n:Nat):val (aE n)=n:=by
 induction n using Nat.strongRecOn with
 | _ n ih =>
  by_cases h:n=0
  ·subst h;rfl
  ·rw [gS (by omega),val,ih (n/4294967296) (by omega)];omega
theorem aB (n:Nat):di (aE n):=by
 induction n using Nat.strongRecOn with
 | _ n ih =>
  by_cases h:n=0
  ·subst h;intro x hx;cases hx
  ·rw [gS (by omega)]
   intro x hx
   rcases List.mem_cons.1 hx with rfl | hx
   ·omega
   ·exact ih _ (by omega) x hx
def AM (l:List Nat):Prop:=∀ h:l≠[],l.getLast h≠0
theorem jJ (n:Nat):AM (aE n):=by
 induction n using Nat.strongRecOn with
 | _ n ih =>
  by_cases h:n=0
  ·subst h;intro h;exact absurd rfl h
  ·rw [gS (by omega)]
   intro hne
   by_cases h2:n/4294967296=0
   ·have e:aE (n/4294967296)=[]:=by rw [h2];rfl
    simp only [e,List.getLast_singleton];omega
   ·have hne':aE (n/4294967296)≠[]:=by rw [gS (by omega)];simp
    rw [List.getLast_cons hne']
    exact ih _ (by omega) hne'
theorem sa {x:Nat} {xs:List Nat} (h:AM (x :: xs)):AM xs:=fun hne=>by
 have:=h (List.cons_ne_nil _ _)
 rwa [List.getLast_cons hne] at this
theorem uU:∀ {l:List Nat},AM l→l≠[]→0<val l
 | [],_,h=>absurd rfl h
 | [x],h,_=>by have:=h (by simp);simp at this;simp [val];omega
 | x :: y :: l,h,_=>by
   have:=uU (sa h) (by simp)
   simp only [val] at this ⊢;omega
theorem uM:∀ {l:List Nat},di l→AM l→aE (val l)=l
 | [],_,_=>rfl
 | x :: xs,h1,h2=>by
   have hp:=uU h2 (by simp)
   have hx:=h1 x (by simp)
   have ih:=uM (l:=xs) (fun y hy=>h1 y (by simp [hy])) (sa h2)
   rw [gS hp]
   have e1:val (x :: xs) % 4294967296=x:=by simp only [val];omega
   have e2:val (x :: xs)/4294967296=val xs:=by simp only [val];omega
   rw [e1,e2,ih]
theorem ks:∀ {l:List Nat},di l→val l<4294967296 ^ l.length
 | [],_=>by simp [val]
 | x :: xs,h=>by
   have ih:=ks (l:=xs) (fun y hy=>h y (by simp [hy]))
   have hx:=h x (by simp)
   simp only [val,List.length_cons,Nat.pow_succ]
   have:val xs+1≤4294967296 ^ xs.length:=ih
   have:=Nat.mul_le_mul_right 4294967296 this
   omega
theorem gA:∀ (l m:List Nat),val (l++m)=val l+4294967296 ^ l.length*val m
 | [],m=>by simp [val]
 | x :: xs,m=>by
   simp only [List.cons_append,val,gA xs m,List.length_cons,Nat.pow_succ]
   rw [Nat.mul_add,←Nat.mul_assoc,Nat.mul_comm 4294967296 (4294967296 ^ xs.length)];omega
theorem jM:∀ k,val (List.replicate k 0)=0
 | 0=>rfl
 | k+1=>by simp [List.replicate_succ,val,jM k]
theorem cU {n k:Nat} (h:n<4294967296 ^ k):(aE n).length≤k:=by
 induction k generalizing n with
 | zero =>
      have:n=0:=by simpa using h
      subst this;simp [eT]
 | succ k ih =>
  by_cases h0:n=0
  ·subst h0;simp [eT]
  ·rw [gS (by omega),List.length_cons]
   have:=ih (n:=n/4294967296) (by rw [Nat.div_lt_iff_lt_mul (by omega)];rwa [←Nat.pow_succ])
   omega
theorem bZ {n k:Nat} (h:(aE n).length≤k):n<4294967296 ^ k:=by
 have h1:=ks (aB n)
 rw [az] at h1
 exact Nat.lt_of_lt_of_le h1 (Nat.pow_le_pow_right (by omega) h)
theorem gQ {n k:Nat}:(aE n).length≤k↔n<4294967296 ^ k:=⟨bZ,cU⟩
theorem cH {n:Nat}:aE n=[]↔n=0:=by
 constructor
 ·intro h;have:=az n;rw [h] at this;exact this.symm
 ·rintro rfl;rfl
theorem nn {l m:List Nat} (h1:di l) (h2:di m):di (l++m):=fun x hx=>by
 rcases List.mem_append.1 hx with h | h
 ·exact h1 x h
 ·exact h2 x h
theorem eM {l:List Nat} (h:di l) (k:Nat):di (l.take k):=fun x hx=>h x (List.mem_of_mem_take hx)
theorem zj {l:List Nat} (h:di l) (k:Nat):di (l.drop k):=fun x hx=>h x (List.mem_of_mem_drop hx)
theorem dP (k:Nat):di (List.replicate k 0):=fun x hx=>by rw [(List.mem_replicate.1 hx).2];omega
theorem zW {l:List Nat} (h:di l) (k:Nat):l.getD k 0<4294967296:=by
 rw [List.getD_eq_getElem?_getD]
 cases hq:l[k]? with
 | none=>simp
 | some x=>simpa using h x (List.mem_of_getElem? hq)
theorem kf {l:List Nat} {k:Nat} (h:k<l.length):val (l.take (k+1))=val (l.take k)+4294967296 ^ k*l.getD k 0:=by
 rw [List.take_succ_eq_append_getElem h,gA,List.length_take,Nat.min_eq_left (by omega),List.getD_eq_getElem?_getD,List.getElem?_eq_getElem h]
 simp [val]
def dt:Nat→List Nat→Nat
 | 0,_=>0
 | n+1,l=>if l.getD n 0=0 then dt n l else n+1
theorem nu:∀ (n:Nat) (l:List Nat),dt n l≤n
 | 0,_=>by simp [dt]
 | n+1,l=>by simp only [dt];split;have:=nu n l;omega;omega
theorem iW:∀ (n:Nat) (l:List Nat),n≤l.length→AM (l.take (dt n l))∧val (l.take (dt n l))=val (l.take n)
 | 0,l,_=>by simp [dt,AM]
 | n+1,l,h=>by
   simp only [dt]
   split
   ·rename_i h0
    have ih:=iW n l (by omega)
    refine⟨ih.1,ih.2.trans ?_⟩
    rw [kf (by omega),h0];simp
   ·rename_i h0
    refine⟨fun hne=>?_,rfl⟩
    rw [List.getLast_eq_getElem]
    simp only [List.length_take,Nat.min_eq_left h,Nat.add_sub_cancel,List.getElem_take]
    rw [List.getD_eq_getElem?_getD,List.getElem?_eq_getElem (by omega)] at h0
    exact h0
def kd (l:List Nat):List Nat:=l.take (dt l.length l)
theorem dO {l:List Nat} (h:di l):kd l=aE (val l):=by
 have:=iW l.length l (Nat.le_refl _)
 rw [List.take_length] at this
 rw [←this.2]
 exact(uM (eM h _) this.1).symm
def bh (n:Nat):LV:=.v (.int .u32 n)
def gi (n:Int):LV:=.v (.int .i64 n)
theorem bB:EncOK bh 1 false:=⟨fun _=>rfl,fun _=>rfl,fun _=>rfl⟩
theorem kB:EncOK gi 1 false:=⟨fun _=>rfl,fun _=>rfl,fun _=>rfl⟩
def dj (l:List Nat):LV:=.list 1 (l.map bh)
def ba (n:Nat):LV:=.list 1 ((aE n).map bh)
theorem ar (n:Nat):(ba n).pure=true:=by simp only [ba,LV.pure];exact al bB _
def eP (q:Rat):Nat:=if q.den=1 then 0 else q.den
@[irreducible] def ratL (q:Rat):LV:=.agg [.v (.bool (decide (q<0))),ba q.num.natAbs,ba (eP q)]
theorem fh (q:Rat):ratL q=.agg [.v (.bool (decide (q<0))),ba q.num.natAbs,ba (eP q)]:=by unfold ratL;rfl
theorem ah:EncOK ratL 3 true:=by
 refine⟨fun q=>?_,fun q=>?_,fun q=>?_⟩
 ·rw [fh];rfl
 ·rw [fh];rfl
 ·rw [fh];simp [LV.pure,aD,ar]
theorem yo (q:Rat):(ratL q).at 0 1 false=some (.v (.bool (decide (q<0)))):=by rw [fh];rfl
theorem xN (q:Rat):(ratL q).at 1 1 false=some (ba q.num.natAbs):=by rw [fh];rfl
theorem xf (q:Rat):(ratL q).at 2 1 false=some (ba (eP q)):=by rw [fh];rfl
theorem am (q:Rat):(ratL q).at 0 3 true=some (ratL q):=by
 have:=mN (ratL q) (ah.pure q)
 rwa [ah.csize,ah.isAgg] at this
theorem cL:ratL 0=.agg [.v (.bool false),.list 1 [],.list 1 []]:=by rw [fh];rfl
@[irreducible] def spL (s:Rat × Rat):LV:=.agg [ratL s.1,ratL s.2]
theorem im (s:Rat × Rat):spL s=.agg [ratL s.1,ratL s.2]:=by unfold spL;rfl
theorem fb:EncOK spL 6 true:=by
 refine⟨fun s=>?_,fun s=>?_,fun s=>?_⟩<;>rw [im]<;>simp [LV.csize,ay,LV.isAgg,LV.pure,aD,ah.csize,ah.pure]
theorem f6 (s:Rat × Rat):(spL s).at 0 6 true=some (spL s):=by
 have:=mN (spL s) (fb.pure s)
 rwa [fb.csize,fb.isAgg] at this
theorem xT (s:Rat × Rat):(spL s).at 0 3 true=some (ratL s.1):=by
 rw [im];simp [LV.at,rI,ay,ah.csize,am]
theorem w5 (s:Rat × Rat):(spL s).at 3 3 true=some (ratL s.2):=by
 rw [im];simp [LV.at,rI,ay,ah.csize,am]
theorem ax (q:Rat) (b:Nat):(ratL q).kill b=ratL q:=LV.kill_pure b _ (ah.pure q)
theorem ae {α:Type} {e:α→LV} {sz:Nat} {ag:Bool} (h:EncOK e sz ag) (b:Nat) (l:List α):aH b (l.map e)=l.map e:=fW b _ (al h l)
theorem aC (q:Rat × Rat) (b:Nat):(spL q).kill b=spL q:=LV.kill_pure b _ (fb.pure q)
section
variable {Z:Nat→Prop} {μ:Nat→Option Nat} {w:World}
theorem bP {x:Value} (h:x.oneCell'=true):bt Z μ w (.v x) [x]:=by simp only [bt];exact⟨trivial,h⟩
theorem jX (sz:Nat):bt Z μ w (.list sz []) [.slice none 0 0]:=by simp only [bt];exact⟨none,0,0,rfl,rfl,Nat.le_refl _,.inl trivial,rfl⟩
theorem bp {l:List LV} {cs:List Value} (h:bn Z μ w l cs):bt Z μ w (.agg l) cs:=by simp only [bt];exact h
theorem bR:bn Z μ w [] []:=by simp only [bn]
theorem aF {x:LV} {xs:List LV} {c1 c2:List Value} (h1:c1.length=x.csize) (h2:bt Z μ w x c1) (h3:bn Z μ w xs c2):bn Z μ w (x :: xs) (c1++c2):=by
 simp only [bn];exact⟨c1,c2,rfl,h1,h2,h3⟩
theorem aX:bt Z μ w (ratL 0) [.bool false,.slice none 0 0,.slice none 0 0]:=by
 rw [cL]
 exact bp (aF (c1:=[.bool false]) rfl (bP rfl) (aF (c1:=[.slice none 0 0]) rfl (jX 1) (aF (c1:=[.slice none 0 0]) rfl (jX 1) bR)))
end
end Go.Lg
namespace Go.Lg
abbrev ce (n:Nat):LV:=.v (.int .u64 ((n:Nat):Int))
abbrev iV (n:Nat):LV:=.v (.int .u32 ((n:Nat):Int))
abbrev ai (n:Nat):LV:=.v (.int .i64 ((n:Nat):Int))
abbrev bL (b:Bool):LV:=.v (.bool b)
abbrev iL (n:Int):LV:=.v (.int .i64 n)
section
variable {a b:Nat}
theorem FB (h:a+b<18446744073709551616):cj .add .u64 (a:Nat) (b:Nat)=some (.int .u64 ((a+b:Nat):Int)):=by
 simp only [cj];rw [IntWalk.u64_in _ (by omega)];simp
theorem od (h:a*b<18446744073709551616):cj .mul .u64 (a:Nat) (b:Nat)=some (.int .u64 ((a*b:Nat):Int)):=by
 simp only [cj]
 have e:((a:Int)*(b:Int))=((a*b:Nat):Int):=by simp
 rw [e,IntWalk.u64_in _ (by omega)]
theorem FA (h:b≤a) (h1:a<18446744073709551616):cj .sub .u64 (a:Nat) (b:Nat)=some (.int .u64 ((a-b:Nat):Int)):=by
 simp only [cj];rw [IntWalk.u64_in _ (by omega)];congr 2;omega
theorem w7 (h:b≤18446744073709551616):cj .sub .u64 (a:Nat) (b:Nat)=some (.int .u64 (((18446744073709551616+a-b) % 18446744073709551616:Nat):Int)):=by
 simp only [cj];rw [IntKind.wrap_u64];congr 2;omega
theorem rG (h:0<b) (h1:a<18446744073709551616):cj .quo .u64 (a:Nat) (b:Nat)=some (.int .u64 ((a/b:Nat):Int)):=by
 have e:((a:Int).tdiv (b:Int))=((a/b:Nat):Int):=by simp
 have h2:a/b≤a:=Nat.div_le_self a b
 simp only [cj];rw [if_neg (by omega),e,IntWalk.u64_in _ ⟨Int.natCast_nonneg _,by omega⟩]
theorem Ed (h:0<b):cj .rem .u64 (a:Nat) (b:Nat)=some (.int .u64 ((a % b:Nat):Int)):=by
 simp only [cj];rw [if_neg (by omega)];congr 2
theorem rJ (h:a*4294967296<18446744073709551616):q8 .shl .u64 (a:Nat) 32=some (.int .u64 ((a*4294967296:Nat):Int)):=by
 have e:(2:Int) ^ min (32:Int).toNat IntKind.u64.bits=4294967296:=by decide
 simp only [q8]
 rw [if_neg (by omega),e,IntWalk.u64_in _ (by omega)];simp
theorem EI:q8 .shr .u64 (a:Nat) 32=some (.int .u64 ((a/4294967296:Nat):Int)):=by
 have e:(2:Int) ^ min (32:Int).toNat IntKind.u64.bits=4294967296:=by decide
 simp only [q8]
 rw [if_neg (by omega),e,Int.fdiv_eq_ediv_of_nonneg _ (by omega)]
 congr 2
theorem EE:q8 .shr .u64 (a:Nat) 63=some (.int .u64 ((a/9223372036854775808:Nat):Int)):=by
 have e:(2:Int) ^ min (63:Int).toNat IntKind.u64.bits=9223372036854775808:=by decide
 simp only [q8]
 rw [if_neg (by omega),e,Int.fdiv_eq_ediv_of_nonneg _ (by omega)]
 congr 2
theorem ju (n w:Nat):(BitVec.ofInt w (n:Int))=BitVec.ofNat w n:=by simp
theorem II {x:Nat} (hb:b<4294967296) (hx:x<4294967296):cj .or .u64 ((x*4294967296:Nat):Int) (b:Nat)=some (.int .u64 ((x*4294967296+b:Nat):Int)):=by
 have e:(BitVec.ofInt IntKind.u64.bits ((x*4294967296:Nat):Int) ||| BitVec.ofInt IntKind.u64.bits (b:Int)).toNat=x*4294967296+b:=by
  rw [ju,ju,BitVec.toNat_or,BitVec.toNat_ofNat,BitVec.toNat_ofNat]
  have e1:x*4294967296 % 2 ^ IntKind.u64.bits=x*4294967296:=Nat.mod_eq_of_lt (by show _<18446744073709551616;omega)
  have e2:b % 2 ^ IntKind.u64.bits=b:=Nat.mod_eq_of_lt (by show _<18446744073709551616;omega)
  rw [e1,e2]
  have:=Nat.shiftLeft_add_eq_or_of_lt (i:=32) (b:=b) (by simpa using hb) x
  rw [Nat.shiftLeft_eq] at this
  exact this.symm
 simp only [cj,e]
 rw [IntWalk.u64_in _ (by omega)]
theorem w6:IntKind.u32.wrap (a:Nat)=((a % 4294967296:Nat):Int):=by rw [IntKind.wrap_u32];omega
theorem C3 (h:a<18446744073709551616):IntKind.u64.wrap (a:Nat)=(a:Int):=IntWalk.u64_in _ (by omega)
theorem i9 {x y:Nat} (hx:x<4294967296) (hy:y<4294967296):x*y≤18446744065119617025:=by
 have:=Nat.mul_le_mul (Nat.le_sub_one_of_lt hx) (Nat.le_sub_one_of_lt hy)
 simpa using this
end
section
variable {P:Program} {H:bI} {ρ:Operand→LV} {S D:TypeId} {x:Operand} {n:Nat} {k':IntKind}
theorem OpP.lenLm {α:Type} {e:α→LV} {sz:Nat} {l:List α} {T:TypeId} {d:TypeId} {as:Array TypeId} (hx:ρ x=.list sz (l.map e)) (has:as=#[T]) (hT:P.underlying T=some (.slice d)) :
  OpP P H ρ (.call ⟨.builtin .len,#[x],as⟩) (ai l.length):=by
 have:=OpP.lenL (H:=H) hx has hT
 rwa [List.length_map] at this
theorem OpP.cv32 {d:TypeDesc} (hS:P.underlying S=some d) (hD:P.underlying D=some (.int .u32)) (hx:ρ x=.v (.int k' (n:Nat))):OpP P H ρ (.convert S D x) (iV (n % 4294967296)):=by
 have:=OpP.conv (H:=H) hS hD hx
 rwa [w6] at this
theorem OpP.cv64 {d:TypeDesc} (hS:P.underlying S=some d) (hD:P.underlying D=some (.int .u64)) (hx:ρ x=.v (.int k' (n:Nat))) (h:n<18446744073709551616):OpP P H ρ (.convert S D x) (ce n):=by
 have:=OpP.conv (H:=H) hS hD hx
 rwa [C3 h] at this
theorem OpP.cvI {d:TypeDesc} {m:Int} (hS:P.underlying S=some d) (hD:P.underlying D=some (.int .i64)) (hx:ρ x=.v (.int k' m)) (h1:-9223372036854775808≤m) (h2:m≤9223372036854775807):OpP P H ρ (.convert S D x) (iL m):=by
 have:=OpP.conv (H:=H) hS hD hx
 rwa [IntWalk.i64_in _ ⟨h1,h2⟩] at this
end
section
variable {P:Program} {Q:LEx→St→Prop} {L L0:St} {K:St→Prop} {dr:Bool} {ops:Array Oper} {l:List Oper}
theorem tI {d:Nat} {b:Bool} (h:L.slot d=.v (.bool b)) (ht:b=true→opsL P dr ops l L K) (hf:b=false→opsL P dr ops l L K):opsL P dr ops l L K:=by
 cases b with
 | true=>exact ht rfl
 | false=>exact hf rfl
theorem aR {c:Operand} {x y:Code} {b:Bool} (hc:L.ev c=.v (.bool b)) (hb:b=true) (h:wpL P x Q L):wpL P (.cond c x y) Q L:=pY hc (fun _=>h) (fun e=>by rw [hb] at e;cases e)
theorem bb {c:Operand} {x y:Code} {b:Bool} (hc:L.ev c=.v (.bool b)) (hb:b=false) (h:wpL P y Q L):wpL P (.cond c x y) Q L:=pY hc (fun e=>by rw [hb] at e;cases e) (fun _=>h)
end
theorem aP.own {L:St} {t:Nat} (d sz:Nat) (h:L.slot t=.v (.slice none 0 0)) (hd:L.heap d=none):aP L ((L.setB d (some ⟨sz,[],true⟩)).put (some t) (.ref d sz 0 0)):=by
 rintro n W X Z0 a w ⟨hdf,hsz,μ,Z,hc,hr⟩
 refine⟨hdf,hsz,μ,Z,?_,fun s=>?_⟩
 ·rw [cw]
  refine hc.reheap fun c id hcd=>?_
  have:c≠d:=by rintro rfl;rw [eH hc hd] at hcd;cases hcd
  simp [St.setB,this]
 ·rw [bz]
  split
  ·rename_i hst
   subst hst
   have e:=hr s
   rw [h] at e
   rw [e.v_eq]
   exact⟨by simp [LV.isAgg],fun _=>by simp [bt]⟩
  ·exact hr s
theorem aP.any (L:St) (t:Nat):aP L (L.put (some t) .any):=by
 rintro n W X Z0 a w ⟨hdf,hsz,μ,Z,hc,hr⟩
 refine⟨hdf,hsz,μ,Z,by rw [cw];exact hc,fun s=>?_⟩
 rw [bz]
 split
 ·trivial
 ·exact hr s
def hp:List (Nat × Blk)→bI
 | [],_=>none
 | (b,x) :: l,c=>bif Nat.beq c b then some x else hp l c
def uQ (b:Nat) (x:Blk):List (Nat × Blk)→List (Nat × Blk)
 | []=>[(b,x)]
 | (c,y) :: l=>bif Nat.beq c b then(b,x) :: l else(c,y) :: uQ b x l
def fy (b:Nat):List (Nat × Blk)→List (Nat × Blk)
 | []=>[]
 | (c,y) :: l=>bif Nat.beq c b then fy b l else(c,⟨y.sz,aH b y.vals,y.mt⟩) :: fy b l
def pL (bs:List Nat):List (Nat × Blk)→List (Nat × Blk)
 | []=>[]
 | (c,y) :: l=>(c,⟨y.sz,y.vals,y.mt && !bs.contains c⟩) :: pL bs l
theorem beq_eq {a b:Nat} (h:Nat.beq a b=true):a=b:=Nat.eq_of_beq_eq_true h
theorem eA (a:Nat):Nat.beq a a=true:=by rw [Nat.beq_eq]
theorem fj {a b:Nat} (h:a≠b):Nat.beq a b=false:=by rw [←Bool.not_eq_true,Nat.beq_eq];exact h
theorem tO (b:Nat) (x:Blk):∀ (l:List (Nat × Blk)) (c:Nat),hp (uQ b x l) c=if c=b then some x else hp l c
 | [],c=>by
   simp only [uQ,hp]
   by_cases h:c=b
   ·subst h;rw [eA];simp
   ·rw [fj h,if_neg h];rfl
 | (d,y) :: l,c=>by
   simp only [uQ]
   by_cases hdb:d=b
   ·subst hdb
    rw [eA]
    simp only [cond_true,hp]
    by_cases h:c=d
    ·subst h;rw [eA];simp
    ·rw [fj h,if_neg h];rfl
   ·rw [fj hdb]
    simp only [cond_false,hp,tO b x l c]
    by_cases h:c=d
    ·subst h;rw [eA];simp [hdb]
    ·rw [fj h];rfl
theorem mM (b:Nat):∀ (l:List (Nat × Blk)) (c:Nat),hp (fy b l) c=if c=b then none else(hp l c).map fun blk=>⟨blk.sz,aH b blk.vals,blk.mt⟩
 | [],c=>by simp [fy,hp]
 | (d,y) :: l,c=>by
   simp only [fy]
   by_cases hdb:d=b
   ·subst hdb
    rw [eA]
    simp only [cond_true,mM d l c,hp]
    by_cases h:c=d
    ·rw [if_pos h,if_pos h]
    ·rw [if_neg h,if_neg h,fj h];rfl
   ·rw [fj hdb]
    simp only [cond_false,hp,mM b l c]
    by_cases h:c=d
    ·subst h;rw [eA];simp [hdb]
    ·rw [fj h];rfl
theorem tV (bs:List Nat):∀ (l:List (Nat × Blk)) (c:Nat),hp (pL bs l) c=(hp l c).map fun blk=>⟨blk.sz,blk.vals,blk.mt && !bs.contains c⟩
 | [],c=>rfl
 | (d,y) :: l,c=>by
   simp only [pL,hp,tV bs l c]
   by_cases h:c=d
   ·subst h;rw [eA];rfl
   ·rw [fj h];rfl
theorem b1 (s:Nat→LV) (l:List (Nat × Blk)) (b:Nat) (x:Blk):(St.mk s (hp l)).setB b (some x)=St.mk s (hp (uQ b x l)):=by
 simp only [St.setB,St.mk.injEq,true_and];funext c;rw [tO]
theorem b2 (L:St) (t:Nat) (r:LV) (b:Nat) (x:Option Blk):(L.put (some t) r).setB b x=(L.setB b x).put (some t) r:=rfl
theorem b3 (s:Nat→LV) (l:List (Nat × Blk)) (b:Nat):(St.mk s (hp l)).kill b=St.mk (fun t=>(s t).kill b) (hp (fy b l)):=by
 simp only [St.kill,St.mk.injEq,true_and];funext c;rw [mM]
theorem b4 (L:St) (t:Nat) (r:LV) (b:Nat):(L.put (some t) r).kill b=(L.kill b).put (some t) (r.kill b):=by
 simp only [St.kill,St.put,St.mk.injEq,and_true]
 funext s
 cases Nat.beq s t<;>rfl
theorem b5 (s:Nat→LV) (l:List (Nat × Blk)) (bs:List Nat):(St.mk s (hp l)).frz bs=St.mk s (hp (pL bs l)):=by
 simp only [St.frz,St.mk.injEq,true_and];funext c;rw [tV]
theorem b6 (L:St) (t:Nat) (r:LV) (bs:List Nat):(L.put (some t) r).frz bs=(L.frz bs).put (some t) r:=rfl
theorem i1 (b:Nat) (x:Blk):uQ b x []=[(b,x)]:=rfl
theorem i2 (b c:Nat) (x y:Blk) (l:List (Nat × Blk)) (h:(c==b)=true):uQ b x ((c,y) :: l)=(b,x) :: l:=by
 simp only [beq_iff_eq] at h;simp only [uQ,h,eA,cond_true]
theorem i3 (b c:Nat) (x y:Blk) (l:List (Nat × Blk)) (h:(c==b)=false):uQ b x ((c,y) :: l)=(c,y) :: uQ b x l:=by
 have h':c≠b:=by simpa using h
 simp only [uQ,fj h',cond_false]
theorem i4 (b:Nat):fy b []=[]:=rfl
theorem i5 (b c:Nat) (y:Blk) (l:List (Nat × Blk)) (h:(c==b)=true):fy b ((c,y) :: l)=fy b l:=by
 simp only [beq_iff_eq] at h;simp only [fy,h,eA,cond_true]
theorem i6 (b c:Nat) (y:Blk) (l:List (Nat × Blk)) (h:(c==b)=false):fy b ((c,y) :: l)=(c,⟨y.sz,aH b y.vals,y.mt⟩) :: fy b l:=by
 have h':c≠b:=by simpa using h
 simp only [fy,fj h',cond_false]
theorem aJ {L:St} {l:List (Nat × Blk)} (h:L.heap=hp l):St.mk L.slot (hp l)=L:=by rw [←h]
def lN (b:Nat):List (Nat × Blk)→List (Nat × Blk)
 | []=>[]
 | (c,y) :: l=>bif Nat.beq c b then lN b l else(c,y) :: lN b l
theorem tM (b:Nat):∀ (l:List (Nat × Blk)) (c:Nat),hp (lN b l) c=if c=b then none else hp l c
 | [],c=>by simp [lN,hp]
 | (d,y) :: l,c=>by
   simp only [lN]
   by_cases hdb:d=b
   ·subst hdb
    rw [eA]
    simp only [cond_true,tM d l c,hp]
    by_cases h:c=d
    ·rw [if_pos h,if_pos h]
    ·rw [if_neg h,if_neg h,fj h];rfl
   ·rw [fj hdb]
    simp only [cond_false,hp,tM b l c]
    by_cases h:c=d
    ·subst h;rw [eA];simp [hdb]
    ·rw [fj h];rfl
theorem F7 (s:Nat→LV) (l:List (Nat × Blk)) (b:Nat):(St.mk s (hp l)).setB b none=St.mk s (hp (lN b l)):=by
 show St.mk s _=_
 congr 1;funext c
 exact(tM b l c).symm
theorem F9 (b:Nat):lN b []=[]:=rfl
theorem Ga (b c:Nat) (y:Blk) (l:List (Nat × Blk)) (h:(c==b)=true):lN b ((c,y) :: l)=lN b l:=by
 have:c=b:=by simpa using h
 subst this;simp only [lN,eA,cond_true]
theorem F0 (b c:Nat) (y:Blk) (l:List (Nat × Blk)) (h:(c==b)=false):lN b ((c,y) :: l)=(c,y) :: lN b l:=by
 have:c≠b:=by simpa using h
 simp only [lN,fj this,cond_false]
def ap (P:Program) (f:FuncId) (args:List LV) (r:LV):Prop:=dB P f args r []∧∀ g,r.ren g=r
section
variable {P:Program} {dr:Bool} {ops:Array Oper} {rest:List Oper} {L:St} {K:St→Prop} {dst:Option Tmp} {ty:TypeId} {pos:String} {af:Array Edge} {g:Option (Nat × Bool)}
theorem ci {f:FuncId} {xs:Array Operand} {as:Array TypeId} {args:List LV} {r:LV} (hg:bc ops L ⟨dst,.call ⟨.value (.func f),xs,as⟩,ty,pos,af,g⟩ true)
  (ha:ImmL L.heap (xs.toList.map L.ev) args) (hk:ap P f args r) (k:opsL P dr ops rest (L.put dst r) K) :
  opsL P dr ops (⟨dst,.call ⟨.value (.func f),xs,as⟩,ty,pos,af,g⟩ :: rest) L K:=xP hg ha hk.1 (hk.2 _) k
theorem o6 {f:FuncId} {xs:Array Operand} {as:Array TypeId} {args:List LV} {r:LV} (bs:List Nat) (hg:bc ops L ⟨dst,.call ⟨.value (.func f),xs,as⟩,ty,pos,af,g⟩ true) (h0:bs.contains 0=false)
  (ha:ImmL (L.frz bs).heap (xs.toList.map L.ev) args) (hk:ap P f args r) (k:opsL P dr ops rest ((L.frz bs).put dst r) K) :
  opsL P dr ops (⟨dst,.call ⟨.value (.func f),xs,as⟩,ty,pos,af,g⟩ :: rest) L K:=vQ bs hg h0 ha hk.1 (hk.2 _) k
theorem ye {f:FuncId} {fn:Func} {c:Code} {args:List LV} {r:LV} (hfol:P.follows .mixedOrders=true) (hf:P.funcs[f]?=some fn) (hb:fn.body=some c)
  (hn:(fn.name== "runtime.NumGoroutine")=false) (hd:da fn.ntmps c=true) (hlen:args.length≤fn.ntmps) (ht:∀ g,r.ren g=r)
  (h:wpL P c (fun e L=>match e with | .exit _=>False | _=>jD P fn.results.toList L r []) (St.mk (fun t=>args.getD t .any) (hp []))):ap P f args r:=⟨oZ hfol hf hb hn hd hlen h,ht⟩
end
theorem xy {P:Program} {f:FuncId} {fn:Func} {c:Code} {args:List LV} {r:LV} {bs:List Blk} (hfol:P.follows .mixedOrders=true) (hf:P.funcs[f]?=some fn) (hb:fn.body=some c)
  (hn:(fn.name== "runtime.NumGoroutine")=false) (hd:da fn.ntmps c=true) (hlen:args.length≤fn.ntmps)
  (h:wpL P c (fun e L=>match e with | .exit _=>False | _=>jD P fn.results.toList L r bs) (St.mk (fun t=>args.getD t .any) (hp []))):dB P f args r bs:=oZ hfol hf hb hn hd hlen h
theorem xo {P:Program} {f:FuncId} {fn:Func} {c:Code} {args:List LV} {r:LV} {blk blk':Blk} (hfol:P.follows .mixedOrders=true) (hf:P.funcs[f]?=some fn) (hb:fn.body=some c)
  (hn:(fn.name== "runtime.NumGoroutine")=false) (hd:da fn.ntmps c=true) (hlen:args.length≤fn.ntmps) (hmt:blk.mt=true)
  (h:wpL P c (fun e L=>match e with | .exit _=>False | _=>rq P fn.results.toList L r blk') (St.mk (fun t=>args.getD t .any) (hp [(0,blk)]))):dK P f blk args r blk':=by
 refine tr hfol hf hb hn hd hlen hmt ?_
 have:Ab args blk=St.mk (fun t=>args.getD t .any) (hp [(0,blk)]):=by
  simp only [Ab,St.mk.injEq,true_and]
  funext c
  simp only [hp]
  by_cases hc:c=0
  ·subst hc;rfl
  ·rw [fj hc,if_neg hc];rfl
 rw [this];exact h
theorem wb {x:LV} (h:x.pure=true):∀ g,x.ren g=x:=fun g=>LV.ren_pure g x h
theorem fv {x y:LV} (h:x.pure=true) (h':y.pure=true):∀ g,(LV.tup [x,y]).ren g=.tup [x,y]:=fun g=>by
 simp only [LV.ren,cB,LV.ren_pure g x h,LV.ren_pure g y h']
theorem vr {x y z:LV} (h:x.pure=true) (h':y.pure=true) (h'':z.pure=true):∀ g,(LV.tup [x,y,z]).ren g=.tup [x,y,z]:=fun g=>by
 simp only [LV.ren,cB,LV.ren_pure g x h,LV.ren_pure g y h',LV.ren_pure g z h'']
theorem aG (l:List Nat):(dj l).pure=true:=ak bB 1 l
theorem t1 (n:Nat):((n:Nat):Int).toNat=n:=rfl
theorem t2 (k:IntKind) (n:Nat):bh n=.v (.int .u32 (n:Nat)):=rfl
theorem ss {L:St} {α:Type} {e:α→LV} {ag:Bool} {bs:List Nat} {b sz len:Nat} {l:List α} {m:Bool} (he:EncOK e sz ag) (hb:L.heap b=some ⟨sz,l.map e,m⟩) (hbs:bs.contains b=true) (hl:len≤l.length) :
  Imm (L.frz bs).heap (.ref b sz 0 len) (.list sz ((l.take len).map e)):=by
 have:=mC (L:=L) (bs:=bs) (off:=0) (len:=len) hb hbs (al he l) (by simp [hl])
 rwa [List.drop_zero,←List.map_take] at this
theorem i8 {P:Program} {L:St} {t:Nat} {x y:LV} {blk:Blk} (h:L.slot t=x) (hi:ArgM L.heap 0 x y) (hb:L.heap 0=some blk) (hm:blk.mt=true) (hp:aD blk.vals=true):rq P [.tmp t] L y blk :=
 ⟨[x],[y],L.heap,.cons h .nil,bI.le_refl _,.cons hi .nil,hb,hm,hp,rfl⟩
theorem r1 (f:Nat→Nat) (b sz off len:Nat):(LV.ref b sz off len).ren f=.ref (f b) sz off len:=rfl
theorem r2 (f:Nat→Nat) (b sz i o:Nat):(LV.eptr b sz i o).ren f=.eptr (f b) sz i o:=rfl
theorem r3 (f:Nat→Nat) (x:Value):(LV.v x).ren f=.v x:=rfl
theorem r4 (d k:Nat):aV d k=1000000+d*16+k:=rfl
section
variable {P:Program} {H:bI} {ρ:Operand→LV} {T E:TypeId} {x z:Operand} {b sz off len h:Nat} {k':IntKind} {ag:Bool}
theorem OpP.sliceRh (hx:ρ x=.ref b sz off len) (hT:P.underlying T=some (.slice E)) (hE:bj P E sz ag) (hhi:ρ z=.v (.int k' (h:Nat))) (h2:h≤len) (h0:0<len) :
  OpP P H ρ (.slice T x none (some z) none) (.ref b sz off h):=by
 have:=OpP.sliceR (P:=P) (H:=H) (ρ:=ρ) (la:=none) (ha:=some z) (a:=0) (h:=h) hx hT hE (fun w hw=>by cases hw) (fun _=>rfl) (fun w hw=>by cases hw;exact⟨_,hhi⟩) (fun h=>by cases h) (by omega) h2 h0
 simpa using this
end
end Go.Lg
namespace Go.Lg
abbrev It:Nat:=4294967296
theorem cS:(default:Nat)=0:=rfl
theorem bC (l:List Nat) (k:Nat):val (l.take (k+1))=val (l.take k)+4294967296 ^ k*l.getD k 0:=by
 by_cases h:k<l.length
 ·exact kf h
 ·have h1:l.take (k+1)=l:=List.take_of_length_le (by omega)
  have h2:l.take k=l:=List.take_of_length_le (by omega)
  have h3:l.getD k 0=0:=by rw [List.getD_eq_getElem?_getD,List.getElem?_eq_none (by omega)];rfl
  rw [h1,h2,h3];simp
theorem fe (l:List Nat) {k:Nat} (h:l.length≤k):val (l.take k)=val l:=by rw [List.take_of_length_le h]
theorem rn (l:List Nat) (k j x:Nat) (h:k≤j):(l.set j x).take k=l.take k:=by rw [List.take_set_of_le h]
theorem dT (l:List Nat) (k x:Nat) (h:k<l.length):val ((l.set k x).take (k+1))=val (l.take k)+4294967296 ^ k*x:=by
 rw [bC,rn _ _ _ _ (Nat.le_refl k),List.getD_eq_getElem?_getD,List.getElem?_set_self h];rfl
theorem cM {l:List Nat} (h:di l) (k x:Nat) (hx:x<4294967296):di (l.set k x):=fun y hy=>by
 rcases List.mem_or_eq_of_mem_set hy with hy | rfl
 ·exact h y hy
 ·exact hx
theorem bH {l:List Nat} (h:di l) (k:Nat):l.getD k 0<4294967296:=zW h k
theorem ke (l:List Nat) (k x:Nat) (h:k<l.length):(l.set k x).getD k 0=x:=by
 rw [List.getD_eq_getElem?_getD,List.getElem?_set_self h];rfl
theorem getD_set_ne (l:List Nat) (k j x:Nat) (h:k≠j):(l.set k x).getD j 0=l.getD j 0:=by
 rw [List.getD_eq_getElem?_getD,List.getD_eq_getElem?_getD,List.getElem?_set_ne h]
theorem eZ (l:List Nat) (k:Nat) (h:l.length≤k):l.getD k 0=0:=by
 rw [List.getD_eq_getElem?_getD,List.getElem?_eq_none h];rfl
theorem fl (p s:Nat):p*(s % 4294967296)+p*4294967296*(s/4294967296)=p*s:=by
 rw [Nat.mul_assoc,←Nat.mul_add,Nat.mod_add_div]
theorem aZ (n k:Nat):(aE n).getD k 0<4294967296:=bH (aB n) k
theorem bN {m n:Nat} (h:m≤n):(aE m).length≤(aE n).length:=by
 apply cU
 have:=ks (aB n);rw [az] at this;omega
theorem df {l:List Nat} (h:di l) {k:Nat} (hk:l.length≤k):val l<4294967296 ^ k :=
 Nat.lt_of_lt_of_le (ks h) (Nat.pow_le_pow_right (by omega) hk)
theorem mo:aE 1=[1]:=rfl
theorem fx {n:Nat} (h0:0<n) (h:n<4294967296):aE n=[n]:=by
 rw [gS h0,Nat.mod_eq_of_lt h,Nat.div_eq_of_lt h];rfl
theorem cK {n:Nat}:(aE n).length≤1↔n<4294967296:=gQ
theorem dQ {n:Nat}:(aE n).length≤2↔n<18446744073709551616:=by
 rw [gQ]
theorem qB (x y:Nat):val [x,y]=x+4294967296*y:=by simp [val]
theorem fw {l:List Nat} (h:AM l) (hne:0<l.length):l.getD (l.length-1) 0≠0:=by
 have h1:l≠[]:=by rintro rfl;simp at hne
 have:=h h1
 rw [List.getLast_eq_getElem] at this
 rw [List.getD_eq_getElem?_getD,List.getElem?_eq_getElem (by omega)]
 exact this
end Go.Lg
namespace Go.Lg
theorem de {l:List Nat} {k:Nat} (h:k<l.length):val (l.drop k)=l.getD k 0+4294967296*val (l.drop (k+1)):=by
 rw [List.drop_eq_getElem_cons h,val,List.getD_eq_getElem?_getD,List.getElem?_eq_getElem h];rfl
theorem kg {l:List Nat} {k x:Nat} (h:k<l.length):val ((l.set k x).drop k)=x+4294967296*val (l.drop (k+1)):=by
 rw [de (by simpa using h),ke _ _ _ h,List.drop_set_of_lt (by omega)]
theorem lY {l:List Nat} (h:di l) {k j:Nat} (hk:l.length≤k+j):val (l.drop k)<4294967296 ^ j :=
 df (zj h k) (by simp;omega)
theorem jK {l:List Nat} {k x:Nat} (h:k<l.length):val (l.set k x)+4294967296 ^ k*l.getD k 0=val l+4294967296 ^ k*x:=by
 induction l generalizing k with
 | nil=>simp at h
 | cons a l ih =>
  cases k with
  | zero=>simp [val];omega
  | succ k =>
   have:=ih (k:=k) (by simpa using h)
   simp only [List.set_cons_succ,val,List.getD_cons_succ,Nat.pow_succ]
   have e1:4294967296 ^ k*4294967296*l.getD k 0=4294967296*(4294967296 ^ k*l.getD k 0):=by rw [Nat.mul_comm (4294967296 ^ k),Nat.mul_assoc]
   have e2:4294967296 ^ k*4294967296*x=4294967296*(4294967296 ^ k*x):=by rw [Nat.mul_comm (4294967296 ^ k),Nat.mul_assoc]
   rw [e1,e2];omega
theorem dD (l:List Nat) (k:Nat) (h:k≤l.length):val l=val (l.take k)+4294967296 ^ k*val (l.drop k):=by
 have:=gA (l.take k) (l.drop k)
 rwa [List.take_append_drop,List.length_take,Nat.min_eq_left h] at this
def fC (m n:Nat):Int:=if m<n then -1 else if n<m then 1 else 0
theorem dY {m n:Nat} (h:m<n):fC m n=-1:=by simp [fC,h]
theorem eF {m n:Nat} (h:n<m):fC m n=1:=by simp [fC,h];omega
theorem fd {m n:Nat} (h:m=n):fC m n=0:=by simp [fC,h]
theorem jI {m n:Nat} (h:(aE m).length<(aE n).length):m<n:=by
 have h1:=ks (aB m);rw [az] at h1
 apply Classical.byContradiction
 intro h2
 have:=bN (Nat.le_of_not_lt h2)
 omega
theorem fD {a b:List Nat} (ha:di a) {k:Nat} (hk:k<a.length) (hk':k<b.length) (hd:a.drop (k+1)=b.drop (k+1)) (h:a.getD k 0<b.getD k 0):val a<val b:=by
 rw [dD a k (by omega),dD b k (by omega),de hk,de hk',hd]
 have h1:val (a.take k)<4294967296 ^ k:=df (eM ha k) (by simp;omega)
 have h2:4294967296 ^ k*(a.getD k 0+1)≤4294967296 ^ k*b.getD k 0:=Nat.mul_le_mul_left _ h
 rw [Nat.mul_add,Nat.mul_add]
 rw [Nat.mul_add] at h2
 omega
theorem nG {a b:List Nat} {k:Nat} (hk:k<a.length) (hk':k<b.length) (hd:a.drop (k+1)=b.drop (k+1)) (h:a.getD k 0=b.getD k 0):a.drop k=b.drop k:=by
 rw [List.drop_eq_getElem_cons hk,List.drop_eq_getElem_cons hk',hd]
 rw [List.getD_eq_getElem?_getD,List.getElem?_eq_getElem hk,List.getD_eq_getElem?_getD,List.getElem?_eq_getElem hk'] at h
 simp only [Option.getD_some] at h
 rw [h]
theorem tx {a b:List Nat} {k:Nat} (hk:k<a.length) (hk':k<b.length) (hd:a.take k=b.take k) (h:a.getD k 0=b.getD k 0):a.take (k+1)=b.take (k+1):=by
 rw [List.take_succ_eq_append_getElem hk,List.take_succ_eq_append_getElem hk',hd]
 rw [List.getD_eq_getElem?_getD,List.getElem?_eq_getElem hk,List.getD_eq_getElem?_getD,List.getElem?_eq_getElem hk'] at h
 simp only [Option.getD_some] at h
 rw [h]
theorem vI {k c:Nat} {a b o:List Nat} (hol:k<o.length) (hv:val (o.take k)+4294967296 ^ k*c=val (a.take k)+val (b.take k)) {s:Nat} (hs:s=c+a.getD k 0+b.getD k 0) :
  val ((o.set k (s % 4294967296)).take (k+1))+4294967296 ^ (k+1)*(s/4294967296)=val (a.take (k+1))+val (b.take (k+1)):=by
 rw [dT _ _ _ hol,bC a,bC b,Nat.pow_succ]
 have h1:=fl (4294967296 ^ k) s
 have h2:4294967296 ^ k*s=4294967296 ^ k*c+4294967296 ^ k*a.getD k 0+4294967296 ^ k*b.getD k 0:=by rw [hs,Nat.mul_add,Nat.mul_add]
 omega
theorem AV {c:Nat} {a b o:List Nat} (hba:b.length≤a.length) (hol:o.length=a.length+1) (hlo:di o) (hc:c<4294967296) (hv:val (o.take a.length)+4294967296 ^ a.length*c=val (a.take a.length)+val (b.take a.length)) :
  kd (o.set a.length c)=aE (val a+val b):=by
 rw [dO (cM hlo _ _ hc)]
 congr 1
 have h1:=dT o a.length c (by omega)
 rw [List.take_of_length_le (by simp;omega)] at h1
 rw [fe a (Nat.le_refl _),fe b hba] at hv
 omega
theorem sg {k br:Nat} {a b o:List Nat} (hol:k<o.length) (hv:val (o.take k)+val (b.take k)=val (a.take k)+4294967296 ^ k*br) {y:Nat} (hy:y=br+b.getD k 0) (h:y≤a.getD k 0) :
  val ((o.set k (a.getD k 0-y)).take (k+1))+val (b.take (k+1))=val (a.take (k+1))+4294967296 ^ (k+1)*0:=by
 rw [dT _ _ _ hol,bC a,bC b]
 have h2:4294967296 ^ k*a.getD k 0=4294967296 ^ k*(a.getD k 0-y)+4294967296 ^ k*br+4294967296 ^ k*b.getD k 0:=by
  rw [←Nat.mul_add,←Nat.mul_add];congr 1;omega
 omega
theorem rj {k br:Nat} {a b o:List Nat} (hol:k<o.length) (hv:val (o.take k)+val (b.take k)=val (a.take k)+4294967296 ^ k*br) {y:Nat} (hy:y=br+b.getD k 0) (h:a.getD k 0<y) (hy2:y≤4294967296) :
  val ((o.set k (4294967296+a.getD k 0-y)).take (k+1))+val (b.take (k+1))=val (a.take (k+1))+4294967296 ^ (k+1)*1:=by
 rw [dT _ _ _ hol,bC a,bC b,Nat.pow_succ]
 have h2:4294967296 ^ k*4294967296+4294967296 ^ k*a.getD k 0=4294967296 ^ k*(4294967296+a.getD k 0-y)+4294967296 ^ k*br+4294967296 ^ k*b.getD k 0:=by
  rw [←Nat.mul_add,←Nat.mul_add,←Nat.mul_add];congr 1;omega
 omega
theorem vo {br:Nat} {a b o:List Nat} (hla:di a) (hlo:di o) (hol:o.length=a.length) (hbl:b.length≤a.length) (hle:val b≤val a)
  (hv:val (o.take a.length)+val (b.take a.length)=val (a.take a.length)+4294967296 ^ a.length*br):kd o=aE (val a-val b):=by
 rw [dO hlo]
 congr 1
 rw [fe a (Nat.le_refl _),fe b hbl,fe o (by omega)] at hv
 have h1:=ks hlo
 rw [hol] at h1
 cases br with
 | zero=>omega
 | succ n =>
  rw [Nat.mul_succ] at hv
  omega
theorem uG {i j c x:Nat} {b o:List Nat} {v0:Nat} (hol:i+j<o.length) (hv:val o+4294967296 ^ (i+j)*c=v0+4294967296 ^ i*(x*val (b.take j))) {s:Nat}
  (hs:s=c+(x*b.getD j 0+o.getD (i+j) 0)) :
  val (o.set (i+j) (s % 4294967296))+4294967296 ^ (i+(j+1))*(s/4294967296)=v0+4294967296 ^ i*(x*val (b.take (j+1))):=by
 have h1:=jK (x:=s % 4294967296) hol
 have h2:=fl (4294967296 ^ (i+j)) s
 have h3:4294967296 ^ i*(x*val (b.take (j+1)))=4294967296 ^ i*(x*val (b.take j))+4294967296 ^ (i+j)*(x*b.getD j 0):=by
  rw [bC,Nat.mul_add,Nat.mul_add,Nat.pow_add]
  congr 1
  rw [Nat.mul_left_comm x,Nat.mul_assoc]
 have h4:4294967296 ^ (i+j)*s=4294967296 ^ (i+j)*c+4294967296 ^ (i+j)*(x*b.getD j 0)+4294967296 ^ (i+j)*o.getD (i+j) 0:=by
  rw [hs,Nat.mul_add,Nat.mul_add];omega
 have h5:4294967296 ^ (i+(j+1))=4294967296 ^ (i+j)*4294967296:=by rw [←Nat.add_assoc,Nat.pow_succ]
 rw [h3,h5]
 omega
theorem vL {i c x:Nat} {a b o:List Nat} {v0:Nat} (_hi:i<a.length) (hol:i+b.length<o.length) (h0:o.getD (i+b.length) 0=0) (hx:x=a.getD i 0) (hv0:v0=val (a.take i)*val b)
  (hv:val o+4294967296 ^ (i+b.length)*c=v0+4294967296 ^ i*(x*val (b.take b.length))) :
  val (o.set (i+b.length) c)=val (a.take (i+1))*val b:=by
 have h1:=jK (x:=c) hol
 rw [List.take_length] at hv
 have h2:val (a.take (i+1))*val b=v0+4294967296 ^ i*(x*val b):=by
  rw [bC,Nat.add_mul,hv0,hx,Nat.mul_assoc]
 rw [h2]
 rw [h0] at h1
 omega
theorem pz {k d r:Nat} {a q:List Nat} (hk:k<a.length) (hq:q.length=a.length) (hv:val (q.drop (k+1))*d+r=val (a.drop (k+1))) {s:Nat} (hs:s=r*4294967296+a.getD k 0) :
  val ((q.set k (s/d)).drop k)*d+s % d=val (a.drop k):=by
 rw [kg (by omega),de hk,←hv,Nat.add_mul]
 have:=Nat.div_add_mod s d
 rw [Nat.mul_comm (s/d)]
 rw [Nat.mul_add,hs] at *
 have e:4294967296*val (q.drop (k+1))*d=4294967296*(val (q.drop (k+1))*d):=by rw [Nat.mul_assoc]
 rw [e]
 omega
theorem rZ {d r x:Nat} (hr:r<d) (hx:x<4294967296):(r*4294967296+x)/d<4294967296:=by
 rw [Nat.div_lt_iff_lt_mul (by omega)]
 have:(r+1)*4294967296≤d*4294967296:=Nat.mul_le_mul_right _ hr
 rw [Nat.mul_comm 4294967296];omega
theorem pB {d r:Nat} {a q:List Nat} (hd:0<d) (hr:r<d) (hq:di q) (hv:val (q.drop 0)*d+r=val (a.drop 0)):kd q=aE (val a/d)∧r=val a % d:=by
 rw [List.drop_zero,List.drop_zero] at hv
 rw [dO hq,←hv]
 refine⟨?_,?_⟩
 ·congr 1
  rw [Nat.mul_comm,Nat.mul_add_div hd,Nat.div_eq_of_lt hr];rfl
 ·rw [Nat.mul_comm,Nat.mul_add_mod,Nat.mod_eq_of_lt hr]
theorem vX {k c p:Nat} {a o:List Nat} (hol:k<o.length) (hv:val (o.take k)+4294967296 ^ k*c=val (a.take k)*p) {s:Nat} (hs:s=a.getD k 0*p+c) :
  val ((o.set k (s % 4294967296)).take (k+1))+4294967296 ^ (k+1)*(s/4294967296)=val (a.take (k+1))*p:=by
 rw [dT _ _ _ hol,bC a,Nat.pow_succ,Nat.add_mul]
 have h1:=fl (4294967296 ^ k) s
 have h2:4294967296 ^ k*s=4294967296 ^ k*(a.getD k 0*p)+4294967296 ^ k*c:=by rw [hs,Nat.mul_add]
 have h3:4294967296 ^ k*a.getD k 0*p=4294967296 ^ k*(a.getD k 0*p):=by rw [Nat.mul_assoc]
 omega
theorem ws {c p:Nat} {a o:List Nat} (hol:o.length=a.length+1) (hv:val (o.take a.length)+4294967296 ^ a.length*c=val (a.take a.length)*p):val (o.set a.length c)=val a*p:=by
 have h1:=dT o a.length c (by omega)
 rw [List.take_of_length_le (by simp;omega)] at h1
 rw [fe a (Nat.le_refl _)] at hv
 omega
def cy (n:Nat):Nat:=if n=0 then 0 else n.log2+1
theorem el {n:Nat}:cy n=0↔n=0:=by unfold cy;split<;>simp_all
theorem eI {n k:Nat}:cy n≤k↔n<2 ^ k:=by
 unfold cy
 split
 ·rename_i h;subst h;simp [Nat.pow_pos]
 ·rename_i h
  rw [Nat.succ_le_iff,Nat.log2_lt h]
theorem qt {n k:Nat}:k<cy n↔2 ^ k≤n:=by
 rw [←Nat.not_le,eI,Nat.not_lt]
theorem xm {n:Nat}:cy n=1↔n=1:=by
 have h1:=eI (n:=n) (k:=1)
 have h0:=el (n:=n)
 simp only [Nat.pow_one] at h1
 omega
theorem Bj {n k:Nat} (h1:2 ^ k≤n) (h2:n<2 ^ (k+1)):cy n=k+1:=by
 have a:=qt.2 h1
 have b:=eI.2 h2
 omega
theorem kR {n k:Nat} (h:2 ^ k≤n):cy n=k+cy (n/2 ^ k):=by
 have hp:0<2 ^ k:=Nat.pow_pos (by omega)
 have h0:n/2 ^ k≠0:=by
  intro e
  rw [Nat.div_eq_zero_iff] at e
  omega
 have h1:0<cy (n/2 ^ k):=by
  rcases Nat.eq_zero_or_pos (cy (n/2 ^ k)) with e | e
  ·exact absurd (el.1 e) h0
  ·exact e
 obtain⟨j,hj⟩:∃ j,cy (n/2 ^ k)=j+1:=⟨_,(Nat.sub_add_cancel h1).symm⟩
 have h2:2 ^ j≤n/2 ^ k:=qt.1 (by omega)
 have h3:n/2 ^ k<2 ^ (j+1):=eI.1 (by omega)
 rw [Nat.le_div_iff_mul_le hp,←Nat.pow_add] at h2
 rw [Nat.div_lt_iff_lt_mul hp,←Nat.pow_add] at h3
 rw [hj]
 have:=Bj (n:=n) (k:=k+j) (by rwa [Nat.add_comm k]) (by rwa [Nat.add_comm k,Nat.add_right_comm])
 omega
theorem xX {l:List Nat} (hL:di l) (h:AM l) (hl:0<l.length):cy (val l)=32*(l.length-1)+cy (l.getD (l.length-1) 0):=by
 have hne:=fw h hl
 have hp:0<4294967296 ^ (l.length-1):=Nat.pow_pos (by omega)
 have hd:val (l.drop (l.length-1))=l.getD (l.length-1) 0:=by
  rw [de (by omega),show l.length-1+1=l.length by omega,List.drop_length];simp [val]
 have hs:=dD l (l.length-1) (by omega)
 have ht:val (l.take (l.length-1))<4294967296 ^ (l.length-1):=df (eM hL _) (by simp)
 rw [hd] at hs
 have hpow:(2:Nat) ^ (32*(l.length-1))=4294967296 ^ (l.length-1):=by rw [Nat.pow_mul]
 have hge:4294967296 ^ (l.length-1)*1≤4294967296 ^ (l.length-1)*l.getD (l.length-1) 0:=Nat.mul_le_mul_left _ (by omega)
 rw [kR (k:=32*(l.length-1)) (by rw [hpow];omega),hpow]
 congr 2
 rw [hs,Nat.add_comm,Nat.mul_add_div hp,Nat.div_eq_of_lt ht];rfl
end Go.Lg
namespace Go.Lg
section
variable {a b s x c:Nat}
theorem Fz (hs:s<64) (h:a*2 ^ s<18446744073709551616):q8 .shl .u64 (a:Nat) (s:Nat)=some (.int .u64 ((a*2 ^ s:Nat):Int)):=by
 have e:min ((s:Int)).toNat IntKind.u64.bits=s:=by show min s 64=s;omega
 have e2:(a:Int)*2 ^ s=((a*2 ^ s:Nat):Int):=by simp
 simp only [q8]
 rw [if_neg (by omega),e,e2,IntWalk.u64_in _ (by omega)]
theorem wZ {k:IntKind} {m:Nat} (hm:m≤k.bits):q8 .shr k (a:Nat) (m:Nat)=some (.int k ((a/2 ^ m:Nat):Int)):=by
 have e:min ((m:Int)).toNat k.bits=m:=by show min m k.bits=m;omega
 simp only [q8]
 rw [if_neg (by omega),e,Int.fdiv_eq_ediv_of_nonneg _ (Int.pow_nonneg (by omega))]
 congr 2
theorem Ge (hc:c<2 ^ s) (h:x*2 ^ s+c<18446744073709551616):cj .or .u64 (c:Nat) ((x*2 ^ s:Nat):Int)=some (.int .u64 ((x*2 ^ s+c:Nat):Int)):=by
 have e:(BitVec.ofInt IntKind.u64.bits (c:Int) ||| BitVec.ofInt IntKind.u64.bits ((x*2 ^ s:Nat):Int)).toNat=x*2 ^ s+c:=by
  rw [ju,ju,BitVec.toNat_or,BitVec.toNat_ofNat,BitVec.toNat_ofNat]
  have e1:x*2 ^ s % 2 ^ IntKind.u64.bits=x*2 ^ s:=Nat.mod_eq_of_lt (by show _<18446744073709551616;omega)
  have e2:c % 2 ^ IntKind.u64.bits=c:=Nat.mod_eq_of_lt (by show _<18446744073709551616;omega)
  rw [e1,e2,Nat.or_comm]
  have:=Nat.shiftLeft_add_eq_or_of_lt (i:=s) (b:=c) hc x
  rw [Nat.shiftLeft_eq] at this
  exact this.symm
 simp only [cj,e]
 rw [IntWalk.u64_in _ (by omega)]
theorem Js {s:ByteArray} (h:(List.range 256).all (fun n=>s[n]?==some (UInt8.ofNat (cy n)))=true) {n:Nat} (hn:n<256):s[n]?=some (UInt8.ofNat (cy n)):=by
 rw [List.all_eq_true] at h
 simpa using h n (by simpa using hn)
end
def eJ:Nat→Nat→List Nat
 | 0,_=>[]
 | k+1,m=>m % 4294967296 :: eJ k (m/4294967296)
theorem it:∀ k m,(eJ k m).length=k
 | 0,_=>rfl
 | k+1,m=>by simp [eJ,it k]
theorem oq:∀ k m,di (eJ k m)
 | 0,_=>fun x h=>by simp [eJ] at h
 | k+1,m=>fun x h=>by
   simp only [eJ,List.mem_cons] at h
   rcases h with rfl | h
   ·omega
   ·exact oq k _ x h
theorem mn:∀ {o:List Nat} {k:Nat},di o→o.length=k→o=eJ k (val o)
 | [],k,_,h=>by subst h;rfl
 | x :: xs,k,hl,h=>by
   subst h
   have hx:=hl x (by simp)
   have ih:=mn (o:=xs) (k:=xs.length) (fun y hy=>hl y (by simp [hy])) rfl
   simp only [List.length_cons,eJ,val]
   have e1:(x+4294967296*val xs) % 4294967296=x:=by omega
   have e2:(x+4294967296*val xs)/4294967296=val xs:=by omega
   rw [e1,e2,←ih]
theorem m9:∀ {k m:Nat},m<4294967296 ^ k→val (eJ k m)=m
 | 0,m,h=>by simp at h;subst h;rfl
 | k+1,m,h=>by
   simp only [eJ,val]
   rw [m9 (k:=k) (by rw [Nat.div_lt_iff_lt_mul (by omega)];rwa [Nat.pow_succ] at h)]
   omega
section
variable {P:Program} {ρ:Operand→LV} {α:Type} {e:α→LV}
theorem OpA.lit2 {T E:TypeId} {x y:Operand} {d sz:Nat} {ag:Bool} {z a b:α} (he:EncOK e sz ag) (hT:P.underlying T=some (.slice E)) (hz:aT P E (e z)) (hE:bj P E sz ag) (hx:ρ x=e a) (hy:ρ y=e b) (hs0:0<sz) (hs1:sz≤1000) :
  OpA P ρ d (.buildSlice T 2 #[(0,x),(1,y)]) (.ref d sz 0 2) ⟨sz,[a,b].map e,true⟩:=by
 have:=OpA.lit (P:=P) (ρ:=ρ) (d:=d) (T:=T) (n:=2) (ps:=#[(0,x),(1,y)]) hT hz (by rw [he.isAgg];exact hE) (he.csize z) (by omega) (by omega) hs0 (by
  intro p hp
  simp only [List.mem_cons,List.not_mem_nil,or_false] at hp
  rcases hp with rfl | rfl
  ·refine⟨by simp,?_,by rw [hx];exact LV.pure_ne_any (he.pure _),by rw [hx];exact LV.pure_ne_tup (he.pure _)⟩
   simp [lay,hx,he.csize,he.isAgg]
  ·refine⟨by simp,?_,by rw [hy];exact LV.pure_ne_any (he.pure _),by rw [hy];exact LV.pure_ne_tup (he.pure _)⟩
   simp [lay,hy,he.csize,he.isAgg])
 simpa [dk,hx,hy,List.replicate] using this
end
section
variable {P:Program} {n:Nat} {W w:World} {X Z0:Nat→Prop} {L:St} {a:Act} {K:St→Prop} {Q:LEx→St→Prop}
theorem Av {s0 d1 d2 sz:Nat} {l:List LV} {T E ty ty' U:TypeId} {pos pos':String} {af af':Array Edge} (h0:L.slot s0=.list sz l) (hT:P.underlying T=some (.slice E))
  (hK:∀ b:Bool,(b=true→l=[])→Q .normal ((L.put (some d1) (.list sz l)).put (some d2) (.v (.bool b)))) :
  ∀ n W X Z0 a w,gR n W X Z0 L a w→da n (.region 0 [Oper.mk (some d1) (.move (.tmp s0)) ty pos af none,Oper.mk (some d2) (.binOp .eql T (.tmp d1) (.const (.slice none 0 0)) U) ty' pos' af' none].toArray false)=true →
   ∀ id,(Code.region id [Oper.mk (some d1) (.move (.tmp s0)) ty pos af none,Oper.mk (some d2) (.binOp .eql T (.tmp d1) (.const (.slice none 0 0)) U) ty' pos' af' none].toArray false).wp P (m8 n W X Z0 Q) a w:=by
 intro n W X Z0 a w hs hd id
 simp only [da,List.all_cons,List.all_nil,Bool.and_true,Bool.and_eq_true,decide_eq_true_eq] at hd
 refine wp_region_list ?_
 have h1:=fu (P:=P) (dr:=false) (ops:=[Oper.mk (some d1) (.move (.tmp s0)) ty pos af none,Oper.mk (some d2) (.binOp .eql T (.tmp d1) (.const (.slice none 0 0)) U) ty' pos' af' none].toArray)
  (o:=Oper.mk (some d1) (.move (.tmp s0)) ty pos af none) hs (L':=L.put (some d1) (.list sz l))
  (.val (r:=.list sz l) (fr:=[]) (H1:=L.heap) rfl (bI.le_refl _) (fun _ _ h=>by cases h) (.pure (by have:=OpP.move (P:=P) (H:=L.heap) (ρ:=L.ev) (.tmp s0);rwa [show L.ev (.tmp s0)=LV.list sz l from h0] at this)) rfl)
  (fun t ht=>by cases ht;exact hd.1)
  (K:=wpList P [Oper.mk (some d1) (.move (.tmp s0)) ty pos af none,Oper.mk (some d2) (.binOp .eql T (.tmp d1) (.const (.slice none 0 0)) U) ty' pos' af' none].toArray (m8 n W X Z0 Q)
   [Oper.mk (some d2) (.binOp .eql T (.tmp d1) (.const (.slice none 0 0)) U) ty' pos' af' none]) (Q:=m8 n W X Z0 Q) (fun a' w' hs'=>?_)
 ·unfold wpList
  split
  ·rename_i h;rw [if_pos h] at h1;exact .inl h1
  ·rename_i h;rw [if_neg h] at h1;exact h1
 ·obtain⟨hdf,hsz,μ,Z,hc,hr⟩:=hs'
  have e1:=hr d1
  rw [bz,if_pos rfl] at e1
  have e2:=e1.2 rfl
  simp only [bt] at e2
  obtain⟨ad,len,cap,q1,q2,q3,q4,q5⟩:=e2
  simp only [List.cons.injEq,and_true] at q1
  have hev:a'.eval (.tmp d1)=.slice ad len cap:=q1
  have hw:Region.wanted (Oper.mk (some d2) (.binOp .eql T (.tmp d1) (.const (.slice none 0 0)) U) ty' pos' af' none) (yielded [Oper.mk (some d1) (.move (.tmp s0)) ty pos af none,Oper.mk (some d2) (.binOp .eql T (.tmp d1) (.const (.slice none 0 0)) U) ty' pos' af' none].toArray a'.tmps)=true:=rfl
  unfold wpList
  rw [if_pos hw]
  left
  have hrun:(execOp a'.eval (Oper.mk (some d2) (.binOp .eql T (.tmp d1) (.const (.slice none 0 0)) U) ty' pos' af' none)).run P w'=.ok (.value (.bool ad.isNone)) w':=by
   have hv:a'.eval (.const (.slice none 0 0))=.slice none 0 0:=rfl
   simp only [execOp,hev,hv]
   simp [eqGuard,binOp,run_equal_slice_nil w' T E ad len cap hT]
  unfold Oper.wp
  rw [hrun,Oper.upon_value]
  refine⟨_,hK ad.isNone ?_,by rw [cX];exact hdf,by rw [dS];exact hsz,μ,Z,by rw [cw];exact hc,eG (fun t ht=>by cases ht;rw [hsz];exact hd.2) hr be.bool⟩
  intro hb
  rcases q4 with q4 | ⟨blk,off,c,T',fz,part,rest,g1,_⟩
  ·exact q4
  ·rw [g1] at hb;cases hb
end
section
variable {R V p vt v2 vl top u2 rl:Nat}
theorem C1 (hV:V=(vt*4294967296+v2)*p+vl) (hR:R=(top*4294967296+u2)*p+rl) (hrl:rl<p) (hu2:u2<4294967296) (hvt:0<vt):R/V≤top/vt:=by
 rw [Nat.le_div_iff_mul_le hvt]
 have h1:R/V*V≤R:=Nat.div_mul_le_self R V
 have h2:R/V*(vt*4294967296*p)≤R/V*V:=Nat.mul_le_mul_left _ (by rw [hV,Nat.add_mul];omega)
 have h3:R<(top+1)*4294967296*p:=by
  rw [hR]
  have:(top*4294967296+u2+1)*p≤(top+1)*4294967296*p:=Nat.mul_le_mul_right _ (by omega)
  rw [Nat.add_mul _ 1] at this;omega
 have h4:R/V*vt*(4294967296*p)<(top+1)*(4294967296*p):=by
  have e1:R/V*vt*(4294967296*p)=R/V*(vt*4294967296*p):=by simp only [Nat.mul_assoc]
  have e2:(top+1)*(4294967296*p)=(top+1)*4294967296*p:=by simp only [Nat.mul_assoc]
  rw [e1,e2];omega
 exact Nat.le_of_lt_succ (Nat.lt_of_mul_lt_mul_right h4)
theorem Db {x rest:Nat} (hV:V=(vt*4294967296+v2)*p+vl) (hR:R=(top*4294967296+u2)*p+rl) (hrl:rl<p) (hV0:0<V)
  (hx:x*vt+rest=top) (h:rest*4294967296+u2<x*v2):R/V<x:=by
 rw [Nat.div_lt_iff_lt_mul hV0]
 have h1:x*((vt*4294967296+v2)*p)≤x*V:=Nat.mul_le_mul_left _ (by rw [hV];omega)
 have h2:top*4294967296+u2+1≤x*(vt*4294967296+v2):=by
  rw [←hx,Nat.add_mul,Nat.mul_add,Nat.mul_assoc];omega
 have h3:(top*4294967296+u2+1)*p≤x*(vt*4294967296+v2)*p:=Nat.mul_le_mul_right _ h2
 rw [Nat.add_mul _ 1] at h3
 rw [Nat.mul_assoc] at h3
 omega
theorem tY {x rest:Nat} (hV:V=(vt*4294967296+v2)*p+vl) (hR:R=(top*4294967296+u2)*p+rl) (hvl:vl<p) (hvt:0<vt) (hV0:0<V)
  (hx:x*vt+rest=top) (hxB:x≤4294967296) (h:x*v2≤rest*4294967296+u2):x≤R/V+1:=by
 cases x with
 | zero=>exact Nat.zero_le _
 | succ y =>
  have:y≤R/V:=by
   rw [Nat.le_div_iff_mul_le hV0]
   have h1:(y+1)*(vt*4294967296+v2)≤top*4294967296+u2:=by
    rw [←hx,Nat.mul_add,Nat.add_mul _ rest,←Nat.mul_assoc];omega
   have h2:(y+1)*(vt*4294967296+v2)*p≤(top*4294967296+u2)*p:=Nat.mul_le_mul_right _ h1
   have h3:y*vl≤y*p:=Nat.mul_le_mul_left _ (Nat.le_of_lt hvl)
   have h4:y*p≤4294967296*p:=Nat.mul_le_mul_right _ (by omega)
   have h5:4294967296*p≤(vt*4294967296+v2)*p:=Nat.mul_le_mul_right _ (by omega)
   have h6:y*V=y*(vt*4294967296+v2)*p+y*vl:=by rw [hV,Nat.mul_add,Nat.mul_assoc]
   have h7:(y+1)*(vt*4294967296+v2)*p=y*(vt*4294967296+v2)*p+(vt*4294967296+v2)*p:=by rw [Nat.add_mul,Nat.add_mul,Nat.one_mul]
   omega
  omega
theorem FY {un u1:Nat} (hV:V=(vt*4294967296+v2)*p+vl) (hR:R=((un*4294967296+u1)*4294967296+u2)*p+rl) (hvl:vl<p) (hv2:v2<4294967296) (hRV:R<V*4294967296):un≤vt:=by
 apply Classical.byContradiction
 intro h
 have h1:(vt+1)*4294967296≤un*4294967296:=by omega
 have h2:(vt*4294967296+v2+1)*4294967296≤(un*4294967296+u1)*4294967296+u2:=by
  have:(vt*4294967296+v2+1)≤un*4294967296+u1:=by omega
  exact Nat.le_trans (Nat.mul_le_mul_right 4294967296 this) (Nat.le_add_right _ _)
 have h3:(vt*4294967296+v2+1)*4294967296*p≤((un*4294967296+u1)*4294967296+u2)*p:=Nat.mul_le_mul_right _ h2
 have h4:V≤(vt*4294967296+v2+1)*p:=by rw [hV,Nat.add_mul _ 1];omega
 have h5:V*4294967296≤(vt*4294967296+v2+1)*p*4294967296:=Nat.mul_le_mul_right _ h4
 have h6:(vt*4294967296+v2+1)*p*4294967296=(vt*4294967296+v2+1)*4294967296*p:=by rw [Nat.mul_right_comm]
 omega
theorem sJ {x rest un u1:Nat} (hx:x*vt+rest=un*4294967296+u1) (hun:un≤vt) (hu1:u1<4294967296) (hv2:v2<4294967296) (hr:4294967296≤rest):x<4294967296∧x*v2≤rest*4294967296+u2:=by
 have hxl:x<4294967296:=by
  apply Classical.byContradiction
  intro h
  have h1:4294967296*vt≤x*vt:=Nat.mul_le_mul_right vt (by omega)
  omega
 refine⟨hxl,?_⟩
 have h1:x*v2≤4294967296*4294967296:=Nat.mul_le_mul (Nat.le_of_lt hxl) (Nat.le_of_lt hv2)
 have h2:4294967296*4294967296≤rest*4294967296:=Nat.mul_le_mul_right _ hr
 omega
end
theorem ri {l:List Nat} {k:Nat} (h:val l<4294967296 ^ k):∀ p,k≤p→l.getD p 0=0:=fun p hp=>by
 apply Classical.byContradiction
 intro h0
 have hlt:p<l.length:=by
  apply Classical.byContradiction
  intro hh
  exact h0 (eZ l p (by omega))
 have h1:=dD l p (by omega)
 rw [de hlt] at h1
 have h2:4294967296 ^ k≤4294967296 ^ p:=Nat.pow_le_pow_right (by omega) hp
 have h3:4294967296 ^ p*1≤4294967296 ^ p*(l.getD p 0+4294967296*val (l.drop (p+1))):=Nat.mul_le_mul_left _ (by omega)
 omega
theorem fL:∀ {l:List Nat},(∀ p,l.getD p 0=0)→val l=0
 | [],_=>rfl
 | x :: xs,h=>by
   have h0:x=0:=by simpa using h 0
   have:=fL (l:=xs) (fun p=>by simpa using h (p+1))
   simp [val,h0,this]
theorem iC (l:List Nat) (k p:Nat):(l.drop k).getD p 0=l.getD (k+p) 0:=by
 rw [List.getD_eq_getElem?_getD,List.getD_eq_getElem?_getD,List.getElem?_drop]
theorem md {l:List Nat} {k:Nat} (hl:di l) (h:∀ p,k≤p→l.getD p 0=0):val l<4294967296 ^ k:=by
 by_cases hk:k≤l.length
 ·rw [dD l k hk,fL (l:=l.drop k) (fun p=>by rw [iC];exact h _ (by omega)),Nat.mul_zero,Nat.add_zero]
  exact df (eM hl k) (by simp;omega)
 ·exact df hl (by omega)
theorem wB {l:List Nat} {k:Nat} (hk:k+2<l.length) (hz:∀ p,k+3≤p→l.getD p 0=0) :
  val l=((l.getD (k+2) 0*4294967296+l.getD (k+1) 0)*4294967296+l.getD k 0)*4294967296 ^ k+val (l.take k):=by
 have h3:val (l.drop (k+2+1))=0:=fL (fun p=>by rw [iC];exact hz _ (by omega))
 rw [dD l k (by omega),de (by omega),de (k:=k+1) (by omega),de (k:=k+1+1) (by omega),h3,Nat.mul_comm (4294967296 ^ k),Nat.add_comm,show k+1+1=k+2 from rfl]
 congr 2
 omega
theorem sf {l:List Nat} {k:Nat} (hk:k+2=l.length):val l=(l.getD (k+1) 0*4294967296+l.getD k 0)*4294967296 ^ k+val (l.take k):=by
 have h3:val (l.drop (k+1+1))=0:=by rw [List.drop_of_length_le (by omega)];rfl
 rw [dD l k (by omega),de (by omega),de (k:=k+1) (by omega),h3,Nat.mul_comm (4294967296 ^ k),Nat.add_comm]
 congr 2
 omega
theorem C4 {i j c br x:Nat} {v ul:List Nat} {v0:Nat} (hul:i+j<ul.length) (hlu:di ul) (hbr:br≤1)
  (hv:val ul+4294967296 ^ j*(x*val (v.take i))=v0+4294967296 ^ (i+j)*(c+br)) {c1 d:Nat} (hc1:c1=c+x*v.getD i 0)
  (hd:d=(18446744073709551616+(18446744073709551616+ul.getD (i+j) 0-c1 % 4294967296) % 18446744073709551616-br) % 18446744073709551616) :
  d/9223372036854775808≤1∧di (ul.set (i+j) (d % 4294967296)) ∧
   val (ul.set (i+j) (d % 4294967296))+4294967296 ^ j*(x*val (v.take (i+1)))=v0+4294967296 ^ (i+1+j)*(c1/4294967296+d/9223372036854775808):=by
 have hu:=bH hlu (i+j)
 refine⟨by omega,cM hlu _ _ (by omega),?_⟩
 have h1:=jK (x:=d % 4294967296) hul
 have h2:d % 4294967296+c1 % 4294967296+br=ul.getD (i+j) 0+4294967296*(d/9223372036854775808):=by omega
 have h3:4294967296 ^ (i+j)*(d % 4294967296)+4294967296 ^ (i+j)*(c1 % 4294967296)+4294967296 ^ (i+j)*br=4294967296 ^ (i+j)*ul.getD (i+j) 0+4294967296 ^ (i+j)*4294967296*(d/9223372036854775808):=by
  rw [←Nat.mul_add,←Nat.mul_add,h2,Nat.mul_add,Nat.mul_assoc]
 have h4:=fl (4294967296 ^ (i+j)) c1
 have h5:4294967296 ^ (i+j)*c1=4294967296 ^ (i+j)*c+4294967296 ^ j*(x*(4294967296 ^ i*v.getD i 0)):=by
  rw [hc1,Nat.mul_add,Nat.pow_add]
  congr 1
  simp only [Nat.mul_assoc,Nat.mul_left_comm,Nat.mul_comm]
 have h6:4294967296 ^ (i+1+j)=4294967296 ^ (i+j)*4294967296:=by rw [Nat.add_right_comm,Nat.pow_succ]
 rw [bC,Nat.mul_add x,Nat.mul_add,h6,Nat.mul_add]
 rw [Nat.mul_add] at hv
 omega
theorem uL {j n c br x t:Nat} {ul:List Nat} {V v0:Nat} (hul:n+j<ul.length) (hlu:di ul) (hbr:br≤1) (hc:c<4294967296)
  (hv:val ul+4294967296 ^ j*(x*V)=v0+4294967296 ^ (n+j)*(c+br)) (ht:t=ul.getD (n+j) 0) {d:Nat}
  (hd:d=(18446744073709551616+(18446744073709551616+t-c) % 18446744073709551616-br) % 18446744073709551616) :
  di (ul.set (n+j) (d % 4294967296))∧d/9223372036854775808≤1 ∧
   val (ul.set (n+j) (d % 4294967296))+4294967296 ^ j*(x*V)=v0+4294967296 ^ (n+j+1)*(d/9223372036854775808):=by
 have hu:=bH hlu (n+j)
 refine⟨cM hlu _ _ (by omega),by omega,?_⟩
 have h1:=jK (x:=d % 4294967296) hul
 have h2:d % 4294967296+c+br=t+4294967296*(d/9223372036854775808):=by omega
 have h3:4294967296 ^ (n+j)*(d % 4294967296)+4294967296 ^ (n+j)*c+4294967296 ^ (n+j)*br=4294967296 ^ (n+j)*t+4294967296 ^ (n+j)*4294967296*(d/9223372036854775808):=by
  rw [←Nat.mul_add,←Nat.mul_add,h2,Nat.mul_add,Nat.mul_assoc]
 rw [Nat.pow_succ]
 rw [Nat.mul_add] at hv
 rw [←ht] at h1
 omega
theorem D3 {i j c:Nat} {v ul:List Nat} {v0:Nat} (hul:i+j<ul.length) (hlu:di ul) (hv:val ul+4294967296 ^ (i+j)*c=v0+4294967296 ^ j*val (v.take i)) {s:Nat} (hs:s=c+(ul.getD (i+j) 0+v.getD i 0)) :
  di (ul.set (i+j) (s % 4294967296))∧val (ul.set (i+j) (s % 4294967296))+4294967296 ^ (i+1+j)*(s/4294967296)=v0+4294967296 ^ j*val (v.take (i+1)):=by
 refine⟨cM hlu _ _ (by omega),?_⟩
 have h1:=jK (x:=s % 4294967296) hul
 have h2:=fl (4294967296 ^ (i+j)) s
 have h3:4294967296 ^ (i+j)*s=4294967296 ^ (i+j)*c+4294967296 ^ (i+j)*ul.getD (i+j) 0+4294967296 ^ j*(4294967296 ^ i*v.getD i 0):=by
  rw [hs,Nat.mul_add,Nat.mul_add,Nat.pow_add]
  simp only [Nat.mul_assoc,Nat.mul_left_comm,Nat.mul_comm]
  omega
 have h6:4294967296 ^ (i+1+j)=4294967296 ^ (i+j)*4294967296:=by rw [Nat.add_right_comm,Nat.pow_succ]
 rw [bC,Nat.mul_add,h6]
 omega
end Go.Lg
namespace Go.Lg
theorem fV (k:Nat):0<4294967296 ^ k:=Nat.pow_pos (by omega)
theorem mG {ul:List Nat} {V n j:Nat} (hVn:V<4294967296 ^ n) (hlt:val ul<V*4294967296 ^ (j+1)):∀ p,n+j+1≤p→ul.getD p 0=0:=by
 apply ri
 have h1:V*4294967296 ^ (j+1)≤4294967296 ^ n*4294967296 ^ (j+1):=Nat.mul_le_mul_right _ (Nat.le_of_lt hVn)
 rw [←Nat.pow_add] at h1
 exact Nat.lt_of_lt_of_le hlt h1
theorem tj {ul:List Nat} {V n j:Nat} (hn:(aE V).length=n+2) (hul:n+2+j<ul.length) (hlu:di ul) (hlt:val ul<V*4294967296 ^ (j+1)) :
  ∃ vl rl,vl<4294967296 ^ n∧rl<4294967296 ^ n∧V=((aE V).getD (n+1) 0*4294967296+(aE V).getD n 0)*4294967296 ^ n+vl ∧
   val ul/4294967296 ^ j=((ul.getD (n+2+j) 0*4294967296+ul.getD (n+1+j) 0)*4294967296+ul.getD (n+j) 0)*4294967296 ^ n+rl ∧
   val ul/4294967296 ^ j<V*4294967296:=by
 have hVn:V<4294967296 ^ (n+2):=bZ (by omega)
 have hz:=mG hVn hlt
 have h1:=sf (l:=aE V) (k:=n) (by omega)
 have h2:=wB (l:=ul) (k:=n+j) (by omega) (fun p hp=>hz p (by omega))
 rw [az] at h1
 refine⟨val ((aE V).take n),val (ul.take (n+j))/4294967296 ^ j,df (eM (aB V) _) (by simp;omega),?_,h1,?_,?_⟩
 ·rw [Nat.div_lt_iff_lt_mul (fV j),←Nat.pow_add]
  exact df (eM hlu _) (by simp;omega)
 ·have e1:n+j+2=n+2+j:=by omega
  have e2:n+j+1=n+1+j:=by omega
  rw [e1,e2] at h2
  rw [h2,Nat.pow_add,←Nat.mul_assoc,Nat.add_comm,Nat.add_mul_div_right _ _ (fV j),Nat.add_comm]
 ·rw [Nat.div_lt_iff_lt_mul (fV j)]
  rw [Nat.pow_succ] at hlt
  have e:V*4294967296*4294967296 ^ j=V*(4294967296 ^ j*4294967296):=by rw [Nat.mul_assoc,Nat.mul_comm 4294967296]
  rw [e];exact hlt
section
variable {ul ul0:List Nat} {V n j x:Nat}
theorem Fx (h:val ul+4294967296 ^ j*(x*V)=val ul0) (hV:0<V):x≤val ul0/4294967296 ^ j/V:=by
 rw [Nat.le_div_iff_mul_le hV,Nat.le_div_iff_mul_le (fV j),Nat.mul_comm _ (4294967296 ^ j)]
 omega
theorem ET (h:val ul+4294967296 ^ j*(x*V)=val ul0+4294967296 ^ (n+j+1)) (hlt:val ul<4294967296 ^ (n+j+1)) (hV:0<V):val ul0/4294967296 ^ j/V<x:=by
 rw [Nat.div_lt_iff_lt_mul hV,Nat.div_lt_iff_lt_mul (fV j),Nat.mul_comm _ (4294967296 ^ j)]
 omega
theorem Ak {ul3:List Nat} {c:Nat} (hx:0<x) (hxV:4294967296 ^ j*((x-1)*V)≤val ul0) (h:val ul+4294967296 ^ j*(x*V)=val ul0+4294967296 ^ (n+j+1)) (hul:n+j<ul3.length) (hl3:di ul3) (hz:∀ p,n+j+1≤p→ul3.getD p 0=0)
  (hc:c≤1) (h3:val ul3+4294967296 ^ (n+j)*c=val ul+4294967296 ^ j*V) {t:Nat} (ht:t=ul3.getD (n+j) 0) :
  di (ul3.set (n+j) ((t+c) % 4294967296))∧val (ul3.set (n+j) ((t+c) % 4294967296))+4294967296 ^ j*((x-1)*V)=val ul0:=by
 have hs:=dD ul3 (n+j) (by omega)
 rw [de hul,fL (l:=ul3.drop (n+j+1)) (fun p=>by rw [iC];exact hz _ (by omega)),Nat.mul_zero,Nat.add_zero,←ht] at hs
 have hlow:val (ul3.take (n+j))<4294967296 ^ (n+j):=df (eM hl3 _) (by simp;omega)
 have htl:=bH hl3 (n+j)
 rw [←ht] at htl
 obtain⟨y,rfl⟩:∃ y,x=y+1:=⟨x-1,by omega⟩
 rw [Nat.add_sub_cancel] at *
 have e1:4294967296 ^ j*((y+1)*V)=4294967296 ^ j*(y*V)+4294967296 ^ j*V:=by rw [Nat.add_mul,Nat.one_mul,Nat.mul_add]
 rw [e1] at h
 have h4:val (ul3.take (n+j))+4294967296 ^ (n+j)*(t+c)=(val ul0-4294967296 ^ j*(y*V))+4294967296 ^ (n+j)*4294967296:=by
  rw [Nat.mul_add,←Nat.pow_succ];omega
 have h5:4294967296≤t+c:=by
  apply Classical.byContradiction
  intro hh
  have:4294967296 ^ (n+j)*(t+c+1)≤4294967296 ^ (n+j)*4294967296:=Nat.mul_le_mul_left _ (by omega)
  rw [Nat.mul_add _ (t+c)] at this
  omega
 have h6:t+c=4294967296:=by omega
 rw [h6] at h4 ⊢
 refine⟨cM hl3 _ _ (by omega),?_⟩
 have h7:=jK (x:=4294967296 % 4294967296) hul
 rw [←ht,Nat.mod_self,Nat.mul_zero,Nat.add_zero] at h7
 rw [Nat.mod_self]
 omega
theorem vd {ql:List Nat} {U0:Nat} (hV:0<V) (hx:x=val ul0/4294967296 ^ j/V) (h:val ul+4294967296 ^ j*(x*V)=val ul0) (hj:j<ql.length)
  (hv:val ul0+V*4294967296 ^ (j+1)*val (ql.drop (j+1))=U0) :
  val ul+V*4294967296 ^ j*val ((ql.set j x).drop j)=U0∧val ul<V*4294967296 ^ j:=by
 constructor
 ·rw [kg hj,←hv,←h,Nat.mul_add]
  have e1:V*4294967296 ^ j*x=4294967296 ^ j*(x*V):=by simp only [Nat.mul_assoc,Nat.mul_left_comm,Nat.mul_comm]
  have e2:V*4294967296 ^ j*(4294967296*val (ql.drop (j+1)))=V*4294967296 ^ (j+1)*val (ql.drop (j+1)):=by
   rw [Nat.pow_succ];simp only [Nat.mul_assoc]
  rw [e1,e2];omega
 ·have h1:val ul0/4294967296 ^ j<(x+1)*V:=by
   rw [←Nat.div_lt_iff_lt_mul hV,hx];omega
  rw [Nat.div_lt_iff_lt_mul (fV j)] at h1
  have e:(x+1)*V*4294967296 ^ j=4294967296 ^ j*(x*V)+V*4294967296 ^ j:=by
   rw [Nat.add_mul,Nat.add_mul,Nat.one_mul,Nat.mul_comm (x*V)]
  rw [e] at h1;omega
end
theorem wn {s:Nat} (hs:s<32):2 ^ s≤2147483648:=Nat.pow_le_pow_right (n:=2) (by omega) (show s≤31 by omega)
theorem xw {top:Nat} (h0:0<top) (h:top<4294967296):2147483648≤top*2 ^ (32-cy top)∧top*2 ^ (32-cy top)<4294967296:=by
 have h1:cy top≤32:=eI.2 h
 have h2:1≤cy top:=by
  rcases Nat.eq_zero_or_pos (cy top) with e | e
  ·exact absurd (el.1 e) (by omega)
  ·exact e
 have h3:2 ^ (cy top-1)≤top:=qt.1 (by omega)
 have h4:top<2 ^ cy top:=eI.1 (Nat.le_refl _)
 constructor
 ·have:=Nat.mul_le_mul_right (2 ^ (32-cy top)) h3
  rw [←Nat.pow_add,show cy top-1+(32-cy top)=31 by omega] at this
  exact this
 ·have:=Nat.mul_lt_mul_of_pos_right h4 (Nat.pow_pos (n:=32-cy top) (show 0<2 by omega))
  rw [←Nat.pow_add,show cy top+(32-cy top)=32 by omega] at this
  exact this
theorem vK {Bv n s:Nat} (hn:(aE Bv).length=n+1) (hs:s=32-cy ((aE Bv).getD n 0)):s<32∧(aE (Bv*2 ^ s)).length=n+1∧2147483648*4294967296 ^ n≤Bv*2 ^ s∧Bv*2 ^ s<4294967296 ^ (n+1):=by
 have hne:=fw (jJ Bv) (by omega:0<(aE Bv).length)
 rw [hn,Nat.add_sub_cancel] at hne
 have hlim:=aZ Bv n
 obtain⟨h1,h2⟩:=xw (Nat.pos_of_ne_zero hne) hlim
 rw [←hs] at h1 h2
 have hv:Bv=4294967296 ^ n*(aE Bv).getD n 0+val ((aE Bv).take n):=by
  have:=dD (aE Bv) n (by omega)
  rw [de (by omega),show (aE Bv).drop (n+1)=[] from List.drop_of_length_le (by omega),az] at this
  simp only [val,Nat.mul_zero,Nat.add_zero] at this
  omega
 have hlow:val ((aE Bv).take n)<4294967296 ^ n:=df (eM (aB Bv) _) (by simp;omega)
 have hge:2147483648*4294967296 ^ n≤Bv*2 ^ s:=by
  have:=Nat.mul_le_mul_left (4294967296 ^ n) h1
  have e:4294967296 ^ n*((aE Bv).getD n 0*2 ^ s)≤Bv*2 ^ s:=by
   rw [←Nat.mul_assoc];exact Nat.mul_le_mul_right _ (by omega)
  rw [Nat.mul_comm] at this;omega
 have hlt:Bv*2 ^ s<4294967296 ^ (n+1):=by
  have hp:0<2 ^ s:=Nat.pow_pos (by omega)
  have e1:Bv<4294967296 ^ n*((aE Bv).getD n 0+1):=by rw [Nat.mul_add];omega
  have e2:=Nat.mul_lt_mul_of_pos_right e1 hp
  have e3:(aE Bv).getD n 0*2 ^ s+2 ^ s≤4294967296:=by
   have hs32:s≤32:=by omega
   have hd:4294967296=2 ^ (32-s)*2 ^ s:=by rw [←Nat.pow_add,show 32-s+s=32 by omega]
   rw [hd] at h2 ⊢
   have:=Nat.lt_of_mul_lt_mul_right h2
   have:=Nat.mul_le_mul_right (2 ^ s) this
   rw [Nat.succ_mul] at this
   exact this
  rw [Nat.mul_assoc,Nat.add_mul,Nat.one_mul] at e2
  have e4:=Nat.mul_le_mul_left (4294967296 ^ n) e3
  rw [Nat.pow_succ];omega
 refine⟨?_,?_,hge,hlt⟩
 ·rcases Nat.eq_zero_or_pos (cy ((aE Bv).getD n 0)) with e | e
  ·exact absurd (el.1 e) hne
  ·omega
 ·have h3:=cU hlt
  have h4:n<(aE (Bv*2 ^ s)).length:=by
   apply Classical.byContradiction
   intro hh
   have:=bZ (n:=Bv*2 ^ s) (k:=n) (by omega)
   have:=Nat.mul_le_mul_right (4294967296 ^ n) (show 1≤2147483648 by omega)
   omega
  omega
theorem Cs {V n:Nat} (hn:(aE V).length=n+1) (hge:2147483648*4294967296 ^ n≤V):2147483648≤(aE V).getD n 0:=by
 have hv:=dD (aE V) n (by omega)
 rw [de (by omega),show (aE V).drop (n+1)=[] from List.drop_of_length_le (by omega),az] at hv
 simp only [val,Nat.mul_zero,Nat.add_zero] at hv
 have hlow:val ((aE V).take n)<4294967296 ^ n:=df (eM (aB V) _) (by simp;omega)
 apply Classical.byContradiction
 intro hh
 have:=Nat.mul_le_mul_left (4294967296 ^ n) (show (aE V).getD n 0+1≤2147483648 by omega)
 rw [Nat.mul_add,Nat.mul_comm _ 2147483648] at this
 omega
theorem yR {A Bv s n m:Nat} (hs:s<32) (hm:(aE A).length=m) (hnm:n+1≤m) (hge:2147483648*4294967296 ^ n≤Bv*2 ^ s):A*2 ^ s<Bv*2 ^ s*4294967296 ^ (m+1-(n+1))∧A*2 ^ s<4294967296 ^ (m+1):=by
 have hA:A<4294967296 ^ m:=bZ (by omega)
 have hp:=wn hs
 have h1:A*2 ^ s<4294967296 ^ m*2147483648:=Nat.lt_of_lt_of_le (Nat.mul_lt_mul_of_pos_right hA (Nat.pow_pos (by omega))) (Nat.mul_le_mul_left _ hp)
 constructor
 ·have h2:=Nat.mul_le_mul_right (4294967296 ^ (m+1-(n+1))) hge
  rw [Nat.mul_assoc,←Nat.pow_add,show n+(m+1-(n+1))=m by omega] at h2
  omega
 ·rw [Nat.pow_succ];exact Nat.lt_trans h1 (Nat.mul_lt_mul_of_pos_left (by omega) (fV m))
theorem x8 {A Bv s:Nat} {ul ql:List Nat} (hB:0<Bv) (h:val ul+Bv*2 ^ s*val ql=A*2 ^ s) (hlt:val ul<Bv*2 ^ s):val ql=A/Bv∧val ul=A % Bv*2 ^ s:=by
 have hp:0<2 ^ s:=Nat.pow_pos (by omega)
 have h1:val ul=A*2 ^ s % (Bv*2 ^ s):=by
  rw [←h,Nat.add_mul_mod_self_left,Nat.mod_eq_of_lt hlt]
 have h2:val ql=A*2 ^ s/(Bv*2 ^ s):=by
  rw [←h,Nat.add_mul_div_left _ _ (by exact Nat.mul_pos hB hp),Nat.div_eq_of_lt hlt,Nat.zero_add]
 rw [Nat.mul_mod_mul_right] at h1
 rw [Nat.mul_div_mul_right _ _ hp] at h2
 exact⟨h2,h1⟩
theorem uf {i s:Nat} {w o:List Nat} (hi:i<w.length) (hs:s<32) (hd:w.getD i 0=o.getD i 0) (hv:2 ^ s*val (w.take i)=val (o.take i)+4294967296 ^ i*(o.getD i 0 % 2 ^ s)) {y:Nat} (hy:y=o.getD i 0/2 ^ s+o.getD (i+1) 0 % 2 ^ s*2 ^ (32-s)) :
  2 ^ s*val ((w.set i y).take (i+1))=val (o.take (i+1))+4294967296 ^ (i+1)*(o.getD (i+1) 0 % 2 ^ s):=by
 rw [dT _ _ _ hi,bC o,Nat.mul_add,hv,Nat.pow_succ]
 have h1:=Nat.div_add_mod (o.getD i 0) (2 ^ s)
 have h2:2 ^ s*(o.getD (i+1) 0 % 2 ^ s*2 ^ (32-s))=4294967296*(o.getD (i+1) 0 % 2 ^ s):=by
  rw [Nat.mul_left_comm,←Nat.pow_add,show s+(32-s)=32 by omega,Nat.mul_comm]
 have h3:2 ^ s*(4294967296 ^ i*y)=4294967296 ^ i*(2 ^ s*(o.getD i 0/2 ^ s))+4294967296 ^ i*4294967296*(o.getD (i+1) 0 % 2 ^ s):=by
  rw [Nat.mul_left_comm,hy,Nat.mul_add,h2,Nat.mul_add,Nat.mul_assoc]
 have h4:4294967296 ^ i*o.getD i 0=4294967296 ^ i*(2 ^ s*(o.getD i 0/2 ^ s))+4294967296 ^ i*(o.getD i 0 % 2 ^ s):=by rw [←Nat.mul_add,h1]
 omega
section
variable {a b s x c:Nat}
theorem HZ:cj .and .u64 (a:Nat) 4294967295=some (.int .u64 ((a % 4294967296:Nat):Int)):=by
 have e:(BitVec.ofInt IntKind.u64.bits (a:Int) &&& BitVec.ofInt IntKind.u64.bits (4294967295:Int)).toNat=a % 4294967296:=by
  have h1:(4294967295:Int)=((4294967295:Nat):Int):=rfl
  rw [h1,ju,ju,BitVec.toNat_and,BitVec.toNat_ofNat,BitVec.toNat_ofNat]
  have h2:4294967295 % 2 ^ IntKind.u64.bits=2 ^ 32-1:=rfl
  rw [h2,Nat.and_two_pow_sub_one_eq_mod]
  show a % 18446744073709551616 % 4294967296=a % 4294967296
  omega
 simp only [cj,e]
 rw [IntWalk.u64_in _ (by omega)]
theorem yI:cj .add .u32 (a:Nat) (b:Nat)=some (.int .u32 (((a+b) % 4294967296:Nat):Int)):=by
 simp only [cj];rw [IntKind.wrap_u32];congr 2
theorem Dk (hs:s≤32):q8 .shl .u32 (a:Nat) ((s:Nat):Int)=some (.int .u32 ((a % 2 ^ (32-s)*2 ^ s:Nat):Int)):=by
 have e:min ((s:Int)).toNat IntKind.u32.bits=s:=by show min s 32=s;omega
 have e2:(a:Int)*2 ^ s=((a*2 ^ s:Nat):Int):=by simp
 simp only [q8]
 rw [if_neg (by omega),e,e2,w6]
 congr 3
 have:4294967296=2 ^ (32-s)*2 ^ s:=by rw [←Nat.pow_add,show 32-s+s=32 by omega]
 rw [this,Nat.mul_mod_mul_right]
theorem Fs (hc:c<2 ^ s) (h:x*2 ^ s+c<4294967296):cj .or .u32 (c:Nat) ((x*2 ^ s:Nat):Int)=some (.int .u32 ((x*2 ^ s+c:Nat):Int)):=by
 have e:(BitVec.ofInt IntKind.u32.bits (c:Int) ||| BitVec.ofInt IntKind.u32.bits ((x*2 ^ s:Nat):Int)).toNat=x*2 ^ s+c:=by
  rw [ju,ju,BitVec.toNat_or,BitVec.toNat_ofNat,BitVec.toNat_ofNat]
  have e1:x*2 ^ s % 2 ^ IntKind.u32.bits=x*2 ^ s:=Nat.mod_eq_of_lt (by show _<4294967296;omega)
  have e2:c % 2 ^ IntKind.u32.bits=c:=Nat.mod_eq_of_lt (by show _<4294967296;omega)
  rw [e1,e2,Nat.or_comm]
  have:=Nat.shiftLeft_add_eq_or_of_lt (i:=s) (b:=c) hc x
  rw [Nat.shiftLeft_eq] at this
  exact this.symm
 simp only [cj,e]
 rw [IntWalk.u32_in _ (by omega)]
theorem qm {s y z:Nat} (hs:s≤32) (hy:y<4294967296):y/2 ^ s<2 ^ (32-s)∧z % 2 ^ s*2 ^ (32-s)+y/2 ^ s<4294967296:=by
 have hd:4294967296=2 ^ (32-s)*2 ^ s:=by rw [←Nat.pow_add,show 32-s+s=32 by omega]
 have hp:0<2 ^ s:=Nat.pow_pos (by omega)
 have h1:y/2 ^ s<2 ^ (32-s):=by rw [Nat.div_lt_iff_lt_mul hp];omega
 refine⟨h1,?_⟩
 have h2:=Nat.mod_lt z hp
 have h3:(z % 2 ^ s+1)*2 ^ (32-s)≤2 ^ s*2 ^ (32-s):=Nat.mul_le_mul_right _ h2
 rw [Nat.add_mul,Nat.one_mul,Nat.mul_comm (2 ^ s)] at h3
 omega
end
theorem kn:∀ {l:List Nat},val l=0→∀ p,l.getD p 0=0
 | [],_,p=>by simp
 | x :: xs,h,p=>by
   simp only [val] at h
   have h1:x=0:=by omega
   have h2:val xs=0:=by omega
   cases p with
   | zero=>simpa using h1
   | succ p=>simpa using kn h2 p
theorem vZ {l:List Nat} {n:Nat} (hn:n=l.length):∀ p,dt n l≤p→l.getD p 0=0:=fun p hp=>by
 subst hn
 have h1:=(iW l.length l (Nat.le_refl _)).2
 rw [List.take_length] at h1
 have h2:=dD l (dt l.length l) (nu _ _)
 rw [h1] at h2
 have h3:val (l.drop (dt l.length l))=0:=by
  rcases Nat.eq_zero_or_pos (val (l.drop (dt l.length l))) with e | e
  ·exact e
  ·have:=Nat.mul_pos (fV (dt l.length l)) e;omega
 have h4:=kn h3 (p-dt l.length l)
 rwa [iC,show dt l.length l+(p-dt l.length l)=p by omega] at h4
theorem rM {l:List Nat} {r s:Nat} (hs:s≤32) (h:val l=r*2 ^ s):l.getD 0 0 % 2 ^ s=0:=by
 cases l with
 | nil=>simp
 | cons x xs =>
  simp only [val] at h
  have hd:4294967296=2 ^ (32-s)*2 ^ s:=by rw [←Nat.pow_add,show 32-s+s=32 by omega]
  have h1:(x+4294967296*val xs) % 2 ^ s=0:=by rw [h,Nat.mul_mod_left]
  rw [hd,Nat.mul_right_comm,Nat.add_mul_mod_self_right] at h1
  simpa using h1
theorem t0:(0:Int).toNat=0:=rfl
theorem AC {x:Nat} (h:x<4294967296):di [x]:=fun y hy=>by simp at hy;omega
def nt:List Nat→Code→Option Code
 | [],c=>some c
 | i :: p,.seq x y=>if i=0 then nt p x else nt p y
 | i :: p,.cond _ x y=>if i=0 then nt p x else nt p y
 | _ :: p,.block _ c=>nt p c
 | _ :: p,.loop c=>nt p c
 | _,_=>none
def ti (fn:Func) (p:List Nat):Option Code:=fn.body.bind (nt p)
section
variable {P:Program} {Q:LEx→St→Prop} {L L':St}
theorem n9 {fn:Func} {p:List Nat} {c:Code} (h:ti fn p=some c) (k:wpL P c Q L):wpL P ((ti fn p).getD .skip) Q L:=by rw [h];exact k
end
theorem ob {P:Program} {Q:LEx→St→Prop} {L:St} {c:Code} {S:St→St} (h:S L=L) (k:wpL P c Q (S L)):wpL P c Q L:=by rw [←h];exact k
theorem gO {Q:LEx→St→Prop} {S L:St} (k:Q .normal S) (h:S=L):Q .normal L:=h ▸ k
end Go.Lg
namespace Go.Lg
theorem JN:(∀ (p:Prop) [Decidable p],(decide p=true)=p)∧(∀ (p:Prop) [Decidable p],(decide p=false)=¬ p)∧(∀ {α:Type} [BEq α] [LawfulBEq α] {a b:α},((a==b)=true)=(a=b))
  ∧ (∀ {α:Type} [BEq α] [LawfulBEq α] {a b:α},((a==b)=false)=¬ (a=b))∧(∀ {α:Type} [BEq α] [LawfulBEq α] {a b:α},((a != b)=true)=¬ (a=b))∧(∀ {α:Type} [BEq α] [LawfulBEq α] {a b:α},((a != b)=false)=(a=b))
  ∧ (∀ (b:Bool),(¬ (b=true))=(b=false))∧(∀ (b:Bool),((!b)=true)=(b=false))∧(∀ (b:Bool),((!b)=false)=(b=true))∧(∀ (a b:Bool),(a=!b)=¬ (a=b))∧(!true)=false∧(!false)=true :=
 ⟨fun _=>by simp,fun _=>by simp,by intros;simp,by intros;simp,by intros;simp,by intros;simp,by simp,by simp,by simp,fun a b=>by cases a<;>cases b<;>simp,rfl,rfl⟩
theorem I6 {p:Prop} (h:p:=by first | exact wb rfl | exact wb (aG _) | exact wb (ar _) | exact wb (ah.pure _) | exact wb (fb.pure _) | exact wb (ak ah _ _) | exact fv (aG _) rfl | exact fv (ar _) rfl | exact fv (ah.pure _) rfl | exact fv (ar _) (ar _) | exact vr (ar _) (ar _) rfl | exact fv rfl rfl | exact vr rfl rfl rfl | exact fv (ak ah _ _) (ak ah _ _) | exact fv (ak ah _ _) rfl):p:=h
theorem Jw {H:bI}:Imm H (.agg [.v (.bool false),.list 1 [],.list 1 []]) (ratL 0):=cL ▸ .pure (ah.pure 0)
theorem fR {p:Prop} (h:p:=by first | exact .pure rfl | exact .pure (ak bB _ _) | exact .pure (ar _) | exact .pure (ah.pure _) | exact .pure (fb.pure _) | exact Jw | exact .pure (ak ah _ _) | exact .pure (aG _) | exact .nil _ | exact .pure (ak kB _ _) | exact .pure (ak fb _ _) | exact .pure (cT.pure ⟨_,_,_⟩) | exact .pure (cA.pure _) | exact .pure (ak cT _ _) | exact .pure (ak cA _ _) | exact .pure (by assumption) | exact .pure pu):p:=h
theorem JU {p:Prop} (h:p:=by first | exact .pure rfl | exact .pure (ak bB _ _) | exact .pure (ar _) | exact .pure (ah.pure _) | exact .pure (fb.pure _) | exact .pure (ak ah _ _) | exact .pure (aG _) | exact .nil _ | exact .pure (ak kB _ _) | exact .pure (ak fb _ _) | exact .pure (by assumption) | exact bg bB rfl rfl (by first | rfl | omega | exact(it _ _).symm | (simp;done) | (simp;omega)) | exact bg ah rfl rfl (by first | rfl | omega | exact(it _ _).symm | (simp;done) | (simp;omega)) | exact ss bB rfl rfl (by first | omega | (simp;omega)) | exact ss ah rfl rfl (by first | omega | (simp;omega))):p:=h
theorem IN {p:Prop} (h:p:=by first | (simp;done) | exact(fun m h=>LV.noConfusion h) | exact LV.pure_ne_tup (ar _) | exact LV.pure_ne_tup (ah.pure _) | exact LV.pure_ne_tup (fb.pure _) | exact LV.pure_ne_tup (aG _) | exact LV.pure_ne_tup (ak ah _ _) | exact LV.pure_ne_tup (by assumption)):p:=h
theorem mT {p:Prop} (h:p:=by first | exact⟨(fun h=>by cases h),(fun _ h=>by cases h)⟩ | exact⟨LV.pure_ne_any (ah.pure _),LV.pure_ne_tup (ah.pure _)⟩ | exact⟨LV.pure_ne_any (fb.pure _),LV.pure_ne_tup (fb.pure _)⟩ | exact⟨LV.pure_ne_any (cT.pure _),LV.pure_ne_tup (cT.pure _)⟩ | exact⟨LV.pure_ne_any (cA.pure _),LV.pure_ne_tup (cA.pure _)⟩ | exact⟨LV.pure_ne_any (by assumption),LV.pure_ne_tup (by assumption)⟩):p:=h
theorem Ec {a s:Nat} (hs:s≤32):q8 .shl .u32 (a:Nat) (32-(s:Int))=some (.int .u32 ((a % 2 ^ s*2 ^ (32-s):Nat):Int)):=by
 have:=Dk (a:=a) (s:=32-s) (by omega)
 rw [show 32-(32-s)=s by omega] at this
 rwa [show (32:Int)-(s:Int)=((32-s:Nat):Int) by omega]
end Go.Lg
namespace Go.Lg
def mB (s:Bool) (n:Nat):Int:=bif s then -(n:Int) else n
theorem zd (s:Bool):mB s 0=0:=by cases s<;>rfl
theorem mp (s:Bool) (n:Nat):(mB s n).natAbs=n:=by cases s<;>simp [mB]
theorem uF (q:Rat):mB (decide (q<0)) q.num.natAbs=q.num:=by
 have h:(q<0)↔q.num<0:=by rw [←Rat.not_le,←Rat.num_nonneg];omega
 by_cases hq:q<0
 ·have:=h.1 hq;simp only [hq,decide_true,mB,cond_true];omega
 ·have h2:¬ q.num<0:=fun x=>hq (h.2 x)
  simp only [hq,decide_false,mB,cond_false];omega
theorem mr (q:Rat):(q<0)↔q.num<0:=by rw [←Rat.not_le,←Rat.num_nonneg];omega
def qv (s:Bool) (n d:Nat):Rat:=mkRat (mB s n) d
theorem tQ (s:Bool) {n d:Nat} (hn:0<n) (hd:0<d):(qv s n d).num.natAbs=n/n.gcd d:=by
 rw [qv,Rat.num_mkRat,if_neg (by omega),mp,Nat.gcd_comm]
 have h:((n.gcd d:Nat):Int) ∣ mB s n:=by
  cases s
  ·exact Int.natCast_dvd_natCast.2 (Nat.gcd_dvd_left _ _)
  ·exact(Int.dvd_neg.2 (Int.natCast_dvd_natCast.2 (Nat.gcd_dvd_left _ _)))
 rw [Int.natAbs_ediv_of_dvd h,mp]
 simp
theorem yF (s:Bool) (n:Nat) {d:Nat} (hd:0<d):(qv s n d).den=d/n.gcd d:=by
 rw [qv,Rat.den_mkRat,if_neg (by omega),mp,Nat.gcd_comm]
theorem Fl (s:Bool) {n d:Nat} (hn:0<n) (hd:0<d):decide (qv s n d<0)=s:=by
 have h1:(qv s n d).num=mB s n/(n.gcd d:Nat):=by rw [qv,Rat.num_mkRat,if_neg (by omega),mp,Nat.gcd_comm]
 have hg:0<n.gcd d:=Nat.gcd_pos_of_pos_left _ hn
 have h2:=tQ s hn hd
 have h3:n/n.gcd d≠0:=by
  have:=Nat.div_pos (Nat.le_of_dvd hn (Nat.gcd_dvd_left n d)) hg;omega
 cases s
 ·have:0≤(qv false n d).num:=by rw [h1];exact Int.ediv_nonneg (by simp [mB]) (by omega)
  simp only [decide_eq_false_iff_not];rw [mr];omega
 ·have:(qv true n d).num≤0:=by
   rw [h1];simp only [mB,cond_true]
   have hd':((n.gcd d:Nat):Int) ∣ (n:Int):=Int.natCast_dvd_natCast.2 (Nat.gcd_dvd_left _ _)
   rw [Int.neg_ediv_of_dvd hd']
   have:=Int.ediv_nonneg (a:=(n:Int)) (b:=(n.gcd d:Nat)) (by omega) (by omega)
   omega
  simp only [decide_eq_true_eq];rw [mr];omega
theorem kI (s:Bool) (d:Nat):qv s 0 d=0:=by rw [qv,zd,Rat.zero_mkRat]
theorem qz (s:Bool) (n:Nat):qv s n 0=0:=by rw [qv];simp
theorem cO (q:Rat):qv (decide (q<0)) q.num.natAbs q.den=q:=by rw [qv,uF,Rat.mkRat_self]
def w9 (s:Bool) (q:Rat):Rat:=qv s q.num.natAbs q.den
theorem kH (q:Rat):w9 (decide (q<0)) q=q:=cO q
theorem BL (s:Bool) (n:Nat):mB (!s) n=- mB s n:=by cases s<;>simp [mB]
theorem Bu (q:Rat):w9 (!decide (q<0)) q=-q:=by
 rw [w9,qv,BL,←Rat.neg_mkRat,uF,Rat.mkRat_self]
theorem pM (s t:Bool) (n d m e:Nat):qv s n d*qv t m e=qv (s != t) (n*m) (d*e):=by
 simp only [qv,Rat.mkRat_mul_mkRat]
 congr 1
 cases s<;>cases t<;>simp [mB,Int.mul_neg,Int.neg_mul]
theorem lW (s:Bool) {n d m e:Nat} (hd:0<d) (he:0<e):qv s n d+qv s m e=qv s (n*e+m*d) (d*e):=by
 simp only [qv];rw [Rat.mkRat_add_mkRat _ _ (by omega) (by omega)]
 congr 1
 cases s<;>simp [mB,Int.neg_mul]<;>omega
theorem pb (s t:Bool) {n d m e:Nat} (hd:0<d) (he:0<e) (hst:s≠t) (h:m*d≤n*e):qv s n d+qv t m e=qv s (n*e-m*d) (d*e):=by
 simp only [qv];rw [Rat.mkRat_add_mkRat _ _ (by omega) (by omega)]
 congr 1
 cases s<;>cases t<;>simp_all [mB,Int.neg_mul]<;>omega
theorem nc (s t:Bool) {n d m e:Nat} (hd:0<d) (he:0<e) (hst:s≠t) (h:n*e≤m*d):qv s n d+qv t m e=qv t (m*d-n*e) (d*e):=by
 simp only [qv];rw [Rat.mkRat_add_mkRat _ _ (by omega) (by omega)]
 congr 1
 cases s<;>cases t<;>simp_all [mB,Int.neg_mul]<;>omega
theorem sH (x:Rat):(-x)⁻¹=-x⁻¹:=by grind
theorem CS (s:Bool) (n d:Nat):(qv s n d)⁻¹=qv s d n:=by
 have h0:(qv false n d)⁻¹=qv false d n:=by
  simp only [qv,Rat.mkRat_eq_div,mB,cond_false]
  rw [Rat.div_def,Rat.inv_mul_rev,Rat.inv_inv,Rat.div_def]
  rfl
 cases s
 ·exact h0
 ·have e:∀ n d:Nat,qv true n d=- qv false n d:=fun n d=>by simp only [qv,mB,cond_true,cond_false,Rat.neg_mkRat]
  rw [e,e,sH,h0]
theorem qw (s t:Bool) (n d m e:Nat):qv s n d/qv t m e=qv (s != t) (n*e) (d*m):=by
 rw [Rat.div_def,CS,pM]
theorem oC (s:Bool) {n d k:Nat} (hk:0<k):qv s (n*k) (d*k)=qv s n d:=by
 by_cases hd:d=0
 ·subst hd;simp [qz]
 simp only [qv]
 rw [Rat.mkRat_eq_iff (by have:=Nat.mul_pos (Nat.pos_of_ne_zero hd) hk;omega) hd]
 cases s<;>simp [mB]<;>grind
theorem fi (q:Rat):eP q=if q.den=1 then 0 else q.den:=rfl
def rl (q:Rat):Nat:=max (aE q.num.natAbs).length (aE q.den).length
theorem db (q:Rat):(aE q.num.natAbs).length≤rl q:=Nat.le_max_left _ _
theorem dx (q:Rat):(aE q.den).length≤rl q:=Nat.le_max_right _ _
theorem cF (q:Rat):(aE (eP q)).length≤rl q:=by
 rw [fi];split
 ·simp [eT]
 ·exact dx q
theorem ER {q:Rat} {k:Nat} (hn:q.num.natAbs<4294967296 ^ k) (hd:q.den<4294967296 ^ k):rl q≤k :=
 Nat.max_le.2 ⟨cU hn,cU hd⟩
theorem pg (q:Rat):q.num.natAbs<4294967296 ^ rl q∧q.den<4294967296 ^ rl q:=⟨bZ (db q),bZ (dx q)⟩
theorem yC (q:Rat):1≤rl q:=by
 have:=dx q
 have h:aE q.den≠[]:=fun h=>q.den_nz (cH.1 h)
 have:=List.length_pos_iff.2 h
 omega
theorem rK (s:Bool) {n d k:Nat} (hn:n<4294967296 ^ k) (hd:d<4294967296 ^ k):rl (qv s n d)≤max k 1:=by
 by_cases hd0:d=0
 ·subst hd0;rw [qz];exact Nat.le_trans (Nat.le_of_eq (by rfl)) (Nat.le_max_right _ _)
 by_cases hn0:n=0
 ·subst hn0;rw [kI];exact Nat.le_trans (Nat.le_of_eq (by rfl)) (Nat.le_max_right _ _)
 refine Nat.le_trans (ER (k:=k) ?_ ?_) (Nat.le_max_left _ _)
 ·rw [tQ s (by omega) (by omega)];exact Nat.lt_of_le_of_lt (Nat.div_le_self _ _) hn
 ·rw [yF s n (by omega)];exact Nat.lt_of_le_of_lt (Nat.div_le_self _ _) hd
theorem yu (q:Rat):rl (-q)=rl q:=by simp [rl]
theorem eR {x y a b:Nat} (hx:x<4294967296 ^ a) (hy:y<4294967296 ^ b):x*y<4294967296 ^ (a+b):=by
 rw [Nat.pow_add];exact Nat.mul_lt_mul'' hx hy
theorem bA (a b:Rat):rl (a*b)≤rl a+rl b:=by
 have ha:=pg a
 have hb:=pg b
 have:=rK (decide (a<0) != decide (b<0)) (eR ha.1 hb.1) (eR ha.2 hb.2)
 rw [←pM,cO,cO] at this
 have:=yC a
 omega
theorem ji (a b:Rat):rl (a/b)≤rl a+rl b:=by
 have ha:=pg a
 have hb:=pg b
 have:=rK (decide (a<0) != decide (b<0)) (eR ha.1 hb.2) (eR ha.2 hb.1)
 rw [←qw,cO,cO] at this
 have:=yC a
 omega
theorem nX {x y k:Nat} (hx:x<4294967296 ^ k) (hy:y<4294967296 ^ k):x+y<4294967296 ^ (k+1):=by
 rw [Nat.pow_succ];omega
theorem dF (a b:Rat):rl (a+b)≤rl a+rl b+1:=by
 have ha:=pg a
 have hb:=pg b
 have hd:=eR ha.2 hb.2
 have hd':a.den*b.den<4294967296 ^ (rl a+rl b+1):=Nat.lt_trans hd (Nat.pow_lt_pow_right (by omega) (by omega))
 have h1:=eR ha.1 hb.2
 have h2:=eR ha.2 hb.1
 have hs:=nX h1 h2
 have key:∀ n,n≤a.num.natAbs*b.den+a.den*b.num.natAbs→∀ s,a+b=qv s n (a.den*b.den)→rl (a+b)≤rl a+rl b+1:=by
  intro n hn s e
  rw [e]
  have:=rK s (Nat.lt_of_le_of_lt hn hs) hd'
  omega
 rw [Nat.mul_comm a.den b.num.natAbs] at key
 by_cases hst:decide (a<0)=decide (b<0)
 ·refine key _ (Nat.le_refl _) (decide (a<0)) ?_
  have:=lW (decide (a<0)) (n:=a.num.natAbs) (m:=b.num.natAbs) a.den_pos b.den_pos
  rw [←this,cO,hst,cO]
 ·rcases Nat.le_total (b.num.natAbs*a.den) (a.num.natAbs*b.den) with h | h
  ·refine key (a.num.natAbs*b.den-b.num.natAbs*a.den) (by omega) (decide (a<0)) ?_
   have:=pb _ _ a.den_pos b.den_pos hst h
   rw [←this,cO,cO]
  ·refine key (b.num.natAbs*a.den-a.num.natAbs*b.den) (by omega) (decide (b<0)) ?_
   have:=nc _ _ a.den_pos b.den_pos hst h
   rw [←this,cO,cO]
theorem fo (a b:Rat):rl (a-b)≤rl a+rl b+1:=by
 have:=dF a (-b)
 rw [yu] at this
 rwa [Rat.sub_eq_add_neg]
theorem mF (s:Bool) {n d:Nat} (hn:0<n) (hd:0<d):ratL (qv s n d)=.agg [.v (.bool s),ba (n/n.gcd d),ba (if d/n.gcd d=1 then 0 else d/n.gcd d)]:=by
 rw [fh,Fl s hn hd,tQ s hn hd,fi,yF s n hd]
def gJ (a b:Rat):Int:=if a<b then -1 else if b<a then 1 else 0
section
variable {P:Program} {H:bI} {ρ:Operand→LV} {T:TypeId} {p x:Operand} {b i d sz:Nat} {q:Rat} {vals:List LV} {m ag:Bool} {α:Type} {e:α→LV} {a:α}
theorem OpP.ldNeg (hp:ρ p=.eptr b 3 i 0) (hb:H b=some ⟨3,vals,m⟩) (hi:vals[i]?=some (ratL q)) (hT:bj P T 1 false):OpP P H ρ (.load T p) (.v (.bool (decide (q<0)))):=.loadE hp hb rfl hi (ah.csize _) (yo q) hT
theorem OpP.ldNum (hp:ρ p=.eptr b 3 i 1) (hb:H b=some ⟨3,vals,m⟩) (hi:vals[i]?=some (ratL q)) (hT:bj P T 1 false):OpP P H ρ (.load T p) (ba q.num.natAbs):=.loadE hp hb rfl hi (ah.csize _) (xN q) hT
theorem OpP.ldDen (hp:ρ p=.eptr b 3 i 2) (hb:H b=some ⟨3,vals,m⟩) (hi:vals[i]?=some (ratL q)) (hT:bj P T 1 false):OpP P H ρ (.load T p) (ba (eP q)):=.loadE hp hb rfl hi (ah.csize _) (xf q) hT
theorem OpP.ldRat (hp:ρ p=.eptr b 3 i 0) (hb:H b=some ⟨3,vals,m⟩) (hi:vals[i]?=some (ratL q)) (hT:bj P T 3 true):OpP P H ρ (.load T p) (ratL q):=.loadE hp hb rfl hi (ah.csize _) (am q) hT
theorem OpA.boxE (he:EncOK e sz ag) (hx:ρ x=e a):OpA P ρ d (.box T x) (.eptr d sz 0 0) ⟨sz,[e a],true⟩:=by
 have h:=OpA.box (P:=P) (ρ:=ρ) (d:=d) (T:=T) (x:=x) (by rw [hx];exact⟨fun h=>by have:=he.pure a;rw [h] at this;simp [LV.pure] at this,LV.pure_ne_tup (he.pure a)⟩)
 rwa [hx,he.csize] at h
theorem OpA.allocE (he:EncOK e sz ag) (hz:aT P T (e a)):OpA P ρ d (.alloc T) (.eptr d sz 0 0) ⟨sz,[e a],true⟩:=by
 have h:=OpA.alloc (ρ:=ρ) (d:=d) hz
 rwa [he.csize] at h
end
section
variable {P:Program} {L:St} {dst:Option Nat} {T:TypeId} {p x:Operand} {b:Nat} {q:Rat} {zs:List LV}
theorem OpT.stRat (hp:L.ev p=.eptr b 3 0 0) (hb:L.heap b=some ⟨3,[.agg zs],true⟩) (hz:ay zs=3) (hx:L.ev x=ratL q) (hT:bj P T 3 true) :
  OpT P L dst (.store T p x) ((L.setB b (some ⟨3,[ratL q],true⟩)).put dst .any):=by
 have h:=OpT.store (P:=P) (dst:=dst) (T:=T) (p:=p) (x:=x) (y:=.agg zs) (y':=ratL q) hp hb rfl rfl rfl (by simp [LV.csize,hz])
  (by rw [hx];simp [LV.put,hz,ah.csize,ah.isAgg]) (by rw [hx,ah.csize,ah.isAgg];exact hT)
  (by rw [hx];exact⟨fun h=>by have:=ah.pure q;rw [h] at this;simp [LV.pure] at this,LV.pure_ne_tup (ah.pure q)⟩)
 exact h
end
section
variable {P:Program} {H:bI} {ρ:Operand→LV} {T:TypeId} {p x y:Operand} {b i d sz:Nat} {s:Rat × Rat} {vals:List LV} {m ag:Bool} {q r:Rat}
theorem OpP.ldLo (hp:ρ p=.eptr b 6 i 0) (hb:H b=some ⟨6,vals,m⟩) (hi:vals[i]?=some (spL s)) (hT:bj P T 3 true):OpP P H ρ (.load T p) (ratL s.1):=.loadE hp hb rfl hi (fb.csize _) (xT s) hT
theorem OpP.ldHi (hp:ρ p=.eptr b 6 i 3) (hb:H b=some ⟨6,vals,m⟩) (hi:vals[i]?=some (spL s)) (hT:bj P T 3 true):OpP P H ρ (.load T p) (ratL s.2):=.loadE hp hb rfl hi (fb.csize _) (w5 s) hT
theorem OpP.ldSp (hp:ρ p=.eptr b 6 i 0) (hb:H b=some ⟨6,vals,m⟩) (hi:vals[i]?=some (spL s)) (hT:bj P T 6 true):OpP P H ρ (.load T p) (spL s):=.loadE hp hb rfl hi (fb.csize _) (f6 s) hT
theorem OpP.buildSp (hT:ck P T [(3,true),(3,true)]) (hz:aT P T (.agg [ratL 0,ratL 0])) (hx:ρ x=ratL q) (hy:ρ y=ratL r):OpP P H ρ (.build T #[(0,x),(1,y)]) (spL (q,r)):=by
 have:=OpP.build (P:=P) (H:=H) (ρ:=ρ) (T:=T) (ps:=#[(0,x),(1,y)]) (zs:=[ratL 0,ratL 0]) (by simpa [lay,ah.csize,ah.isAgg] using hT) hz (by
  simp only [List.forall_mem_cons]
  exact⟨⟨_,rfl,by simp [lay,hx,ah.csize,ah.isAgg],by rw [hx];exact⟨LV.pure_ne_any (ah.pure _),LV.pure_ne_tup (ah.pure _)⟩⟩,⟨_,rfl,by simp [lay,hy,ah.csize,ah.isAgg],by rw [hy];exact⟨LV.pure_ne_any (ah.pure _),LV.pure_ne_tup (ah.pure _)⟩⟩,fun _ h=>by cases h⟩)
 rw [im]
 simpa [dk,hx,hy] using this
theorem OpT.stSp {L:St} {dst:Option Nat} {s0:Rat × Rat} (hp:L.ev p=.eptr b 6 0 0) (hb:L.heap b=some ⟨6,[spL s0],true⟩) (hx:L.ev x=spL s) (hT:bj P T 6 true) :
  OpT P L dst (.store T p x) ((L.setB b (some ⟨6,[spL s],true⟩)).put dst .any):=by
 have h0:LV.put (spL s0) 0 (L.ev x)=some (spL s):=by
  rw [hx,im s0]
  simp [LV.put,fb.csize,fb.isAgg,ay,LV.csize,ah.csize]
 have h:=OpT.store (P:=P) (dst:=dst) (T:=T) (p:=p) (x:=x) (y:=spL s0) (y':=spL s) hp hb rfl rfl rfl (fb.csize _) h0 (by rw [hx,fb.csize,fb.isAgg];exact hT)
  (by rw [hx];exact⟨LV.pure_ne_any (fb.pure s),LV.pure_ne_tup (fb.pure s)⟩)
 exact h
end
theorem ot {L:St} {α:Type} {e:α→LV} {ag:Bool} {bs:List Nat} {b sz off len:Nat} {l l':List α} {m:Bool} (he:EncOK e sz ag) (hb:L.heap b=some ⟨sz,l.map e,m⟩) (hbs:bs.contains b=true) (hl:off+len≤l.length) (h:(l.drop off).take len=l') :
  Imm (L.frz bs).heap (.ref b sz off len) (.list sz (l'.map e)):=by
 have:=mC (L:=L) (bs:=bs) (off:=off) (len:=len) hb hbs (al he l) (by simpa using hl)
 rwa [←List.map_drop,←List.map_take,h] at this
theorem Az {n:Int} (h1:-9223372036854775808<n) (h2:n≤9223372036854775807):(if IntKind.i64.wrap (0-n) > n then IntKind.i64.wrap (0-n) else n)=((n.natAbs:Nat):Int):=by
 rw [IntWalk.i64_in _ (by omega)];split<;>omega
theorem n5 (n:Int):qv (decide (n<0)) n.natAbs 1=(n:Rat):=by
 have:mB (decide (n<0)) n.natAbs=n:=by
  by_cases h:n<0
  ·simp only [h,decide_true,mB,cond_true];omega
  ·simp only [h,decide_false,mB,cond_false];omega
 rw [qv,this,Rat.mkRat_one]
theorem qE (n d:Int):qv (decide (n<0) != decide (d<0)) n.natAbs d.natAbs=(n:Rat)/(d:Rat):=by
 rw [←n5 n,←n5 d,qw];simp
theorem Ea {q:Rat} (h:q.den<4294967296):(aE (eP q)).length≤1:=cK.2 (by rw [fi];split<;>omega)
theorem jC {q:Rat} (h:0<(aE (eP q)).length):eP q=q.den:=by
 rw [fi] at h ⊢;split
 ·rename_i h1;rw [if_pos h1] at h;simp [eT] at h
 ·rfl
theorem jG {q:Rat} (h:(aE (eP q)).length=0):q.den=1:=by
 have h0:=cH.1 (List.eq_nil_of_length_eq_zero h)
 rw [fi] at h0
 have:=q.den_pos
 split at h0
 ·assumption
 ·omega
def Af (q:Rat):Bool:=decide (q.num.natAbs<4294967296∧q.den<4294967296)
def pN (q:Rat):Nat:=if Af q then q.num.natAbs else 0
def pD (q:Rat):Nat:=if Af q then q.den else 0
def gM (a:Rat):Int:=if a=0 then 0 else if a<0 then -1 else 1
theorem uJ (q:Rat):gM q=if q.num.natAbs=0 then 0 else if q<0 then -1 else 1:=by
 unfold gM
 by_cases h:q=0
 ·subst h;rfl
 ·have:¬ q.num.natAbs=0:=fun h2=>h (Rat.num_eq_zero.1 (by omega))
  rw [if_neg h,if_neg this]
def jl (l:List Nat) (off n:Nat):List Nat:=if n<4294967296 then l.set off n else(l.set off (n % 4294967296)).set (off+1) (n/4294967296)
def gq (n:Nat):Nat:=if n<4294967296 then 1 else 2
theorem jx {n:Nat} (h0:0<n) (h:n<18446744073709551616):(n<4294967296∧gq n=1∧aE n=[n])∨(4294967296≤n∧gq n=2∧aE n=[n % 4294967296,n/4294967296]):=by
 by_cases hn:n<4294967296
 ·exact .inl ⟨hn,by simp [gq,hn],fx h0 hn⟩
 ·refine .inr ⟨by omega,by simp [gq,hn],?_⟩
  rw [gS h0,fx (by omega) (by omega)]
theorem wa {n:Nat} (h0:0<n) (h:n<18446744073709551616):((jl [0,0,0,0] 0 n).drop 0).take (gq n)=aE n:=by
 rcases jx h0 h with⟨h1,h2,h3⟩ | ⟨h1,h2,h3⟩
 ·rw [h2,h3];simp [jl,h1]
 ·rw [h2,h3];simp [jl,Nat.not_lt.2 h1]
theorem wi {n d:Nat} (h0:0<n) (h:n<18446744073709551616) (g0:0<d) (g:d<18446744073709551616) :
  ((jl (jl [0,0,0,0] 0 n) (gq n) d).drop 0).take (gq n)=aE n∧((jl (jl [0,0,0,0] 0 n) (gq n) d).drop (gq n)).take (gq d)=aE d:=by
 rcases jx h0 h with⟨h1,h2,h3⟩ | ⟨h1,h2,h3⟩<;>rcases jx g0 g with⟨g1,g2,g3⟩ | ⟨g1,g2,g3⟩<;>rw [h2,h3,g2,g3]<;>simp [jl, *,Nat.not_lt.2]
theorem nH (l:List Nat) (off n:Nat):(jl l off n).length=l.length:=by unfold jl;split<;>simp
section
variable {P:Program} {ρ:Operand→LV} {α:Type} {e:α→LV}
theorem OpA.lit3 {T E:TypeId} {x y w:Operand} {d sz:Nat} {ag:Bool} {z a b c:α} (he:EncOK e sz ag) (hT:P.underlying T=some (.slice E)) (hz:aT P E (e z)) (hE:bj P E sz ag) (hx:ρ x=e a) (hy:ρ y=e b) (hw:ρ w=e c) (hs0:0<sz) (hs1:sz≤1000) :
  OpA P ρ d (.buildSlice T 3 #[(0,x),(1,y),(2,w)]) (.ref d sz 0 3) ⟨sz,[a,b,c].map e,true⟩:=by
 have hne:∀ v,ρ v=e a∨ρ v=e b∨ρ v=e c→lay (ρ v)=lay (e z)∧ρ v≠.any∧∀ m,ρ v≠.tup m:=by
  rintro v (h | h | h)<;>rw [h]<;>exact⟨by simp [lay,he.csize,he.isAgg],LV.pure_ne_any (he.pure _),LV.pure_ne_tup (he.pure _)⟩
 have:=OpA.lit (P:=P) (ρ:=ρ) (d:=d) (T:=T) (n:=3) (ps:=#[(0,x),(1,y),(2,w)]) hT hz (by rw [he.isAgg];exact hE) (he.csize z) (by omega) (by omega) hs0 (by
  intro p hp
  simp only [List.mem_cons,List.not_mem_nil,or_false] at hp
  rcases hp with rfl | rfl | rfl
  ·exact⟨by show 0<3;omega,hne x (.inl hx)⟩
  ·exact⟨by show 1<3;omega,hne y (.inr (.inl hy))⟩
  ·exact⟨by show 2<3;omega,hne w (.inr (.inr hw))⟩)
 simpa [dk,hx,hy,hw,List.replicate] using this
theorem OpA.lit4 {T E:TypeId} {x y w z':Operand} {d sz:Nat} {ag:Bool} {z a b c f:α} (he:EncOK e sz ag) (hT:P.underlying T=some (.slice E)) (hz:aT P E (e z)) (hE:bj P E sz ag) (hx:ρ x=e a) (hy:ρ y=e b) (hw:ρ w=e c) (hf:ρ z'=e f) (hs0:0<sz) (hs1:sz≤1000) :
  OpA P ρ d (.buildSlice T 4 #[(0,x),(1,y),(2,w),(3,z')]) (.ref d sz 0 4) ⟨sz,[a,b,c,f].map e,true⟩:=by
 have hne:∀ v,ρ v=e a∨ρ v=e b∨ρ v=e c∨ρ v=e f→lay (ρ v)=lay (e z)∧ρ v≠.any∧∀ m,ρ v≠.tup m:=by
  rintro v (h | h | h | h)<;>rw [h]<;>exact⟨by simp [lay,he.csize,he.isAgg],LV.pure_ne_any (he.pure _),LV.pure_ne_tup (he.pure _)⟩
 have:=OpA.lit (P:=P) (ρ:=ρ) (d:=d) (T:=T) (n:=4) (ps:=#[(0,x),(1,y),(2,w),(3,z')]) hT hz (by rw [he.isAgg];exact hE) (he.csize z) (by omega) (by omega) hs0 (by
  intro p hp
  simp only [List.mem_cons,List.not_mem_nil,or_false] at hp
  rcases hp with rfl | rfl | rfl | rfl
  ·exact⟨by show 0<4;omega,hne x (.inl hx)⟩
  ·exact⟨by show 1<4;omega,hne y (.inr (.inl hy))⟩
  ·exact⟨by show 2<4;omega,hne w (.inr (.inr (.inl hw)))⟩
  ·exact⟨by show 3<4;omega,hne z' (.inr (.inr (.inr hf)))⟩)
 simpa [dk,hx,hy,hw,hf,List.replicate] using this
end
theorem cN {P:Program} {L L0:St} {c:Code} {Q:LEx→St→Prop} (hw:aP L L0) (h:wpL P (.loop c) Q L0):wpL P (.loop c) Q L:=by
 intro I hI
 obtain⟨L1,h1,h2⟩:=h I hI
 exact⟨L1,hw.trans h1,h2⟩
section
variable {P:Program} {ops:Array Oper} {D:Array Bool} {L:St} {K:St→Prop} {fuel:Nat}
theorem bq (hr:Region.ready .any ops D=[]) (k:K L):ff P ops fuel D L K:=by
 cases fuel with
 | zero=>exact⟨hr,k⟩
 | succ n=>exact⟨fun _=>k,fun i hi=>by rw [hr] at hi;cases hi⟩
theorem aq (i:Nat) (o:Oper) (hr:Region.ready .any ops D=[i]) (ho:ops[i]?=some o) (h:opsL P false ops [o] L (fun L'=>ff P ops fuel (D.setIfInBounds i true) L' K)):ff P ops (fuel+1) D L K:=by
 refine⟨fun e=>(by rw [hr] at e;cases e),fun j hj=>?_⟩
 rw [hr,List.mem_singleton] at hj
 subst hj
 obtain⟨L',h1,h2⟩:=h
 exact⟨o,L',ho,h1,h2⟩
theorem bY (i j:Nat) (o o2:Oper) (hr:Region.ready .any ops D=[i,j]) (ho:ops[i]?=some o) (ho2:ops[j]?=some o2) (h:opsL P false ops [o] L (fun L'=>ff P ops fuel (D.setIfInBounds i true) L' K))
  (h2:opsL P false ops [o2] L (fun L'=>ff P ops fuel (D.setIfInBounds j true) L' K)):ff P ops (fuel+1) D L K:=by
 refine⟨fun e=>(by rw [hr] at e;cases e),fun x hx=>?_⟩
 rw [hr] at hx
 simp only [List.mem_cons,List.not_mem_nil,or_false] at hx
 rcases hx with rfl | rfl
 ·obtain⟨L',h1,h3⟩:=h
  exact⟨o,L',ho,h1,h3⟩
 ·obtain⟨L',h1,h3⟩:=h2
  exact⟨o2,L',ho2,h1,h3⟩
end
class UN (P:Program) (T:TypeId) (d:outParam TypeDesc):Prop where
 h:P.underlying T=some d
class TI (P:Program) (T:TypeId) (sz:outParam Nat) (ag:outParam Bool):Prop where
 h:bj P T sz ag
class SI (P:Program) (T:TypeId) (l:outParam (List (Nat × Bool))):Prop where
 h:ck P T l
class BI (P:Program) (T:TypeId) (n:outParam Nat):Prop where
 h:a7 P T n
class ZI (P:Program) (T:TypeId) (z:outParam LV):Prop where
 h:aT P T z
class EC (P:Program) (T:TypeId) {α:outParam Type} (e:outParam (α→LV)) (sz:outParam Nat) (ag:outParam Bool) (z:outParam α):Prop where
 h:EncOK e sz ag
 z:aT P T (e z)
 t:bj P T sz ag
class AE (P:Program) (T:TypeId) {α:outParam Type} (e:outParam (α→LV)) (sz:outParam Nat) (ag:outParam Bool) (z:outParam α):Prop where
 h:EncOK e sz ag
 z:aT P T (e z)
theorem F1 {p:Prop} (h:p:=by first | (simp only [JN,l1,t0,t1,cS,az];exact rfl) | exact rfl):p:=h
theorem vq {S:St→St} {L L1:St} (h:S L1=L):∃ L1,aP L (S L1):=⟨L1,aP.of_eq h⟩
def Fd:BinOp→Bool
 | .eql | .neq | .lss | .leq | .gtr | .geq=>true
 | _=>false
section
variable {P:Program} {H:bI} {ρ:Operand→LV} {α:Type} {e:α→LV} {sz:Nat} {ag:Bool} {z a:α} {T E:TypeId} {p x i:Operand} {L L0:St} {Q:LEx→St→Prop} {K:St→Prop}
theorem OpP.ldB [c:EC P T e sz ag z] (hp:ρ p=.boxp (e a)):OpP P H ρ (.load T p) (e a):=.loadBm c.h hp c.t
theorem OpP.ldE [Inhabited α] [c:EC P T e sz ag z] {b i:Nat} {l:List α} {m:Bool} (hp:ρ p=.eptr b sz i 0) (hb:H b=some ⟨sz,l.map e,m⟩) (hi:i<l.length):OpP P H ρ (.load T p) (e (l.getD i default)):=.loadEm c.h hp hb c.t hi
theorem OpP.ixL [Inhabited α] [u:UN P T (.slice E)] [c:EC P E e sz ag z] {l:List α} {k:IntKind} {n:Int} (hx:ρ x=.list sz (l.map e)) (hi:ρ i=.v (.int k n)) (h0:0≤n) (hn:n<l.length) :
  OpP P H ρ (.indexAddr T x i) (.boxp (e (l.getD n.toNat default))):=.idxLm c.h hx u.h c.t hi h0 hn
theorem OpP.ixR [u:UN P T (.slice E)] [c:TI P E sz ag] {b off len:Nat} {k:IntKind} {n:Int} (hx:ρ x=.ref b sz off len) (hi:ρ i=.v (.int k n)) (h0:0≤n) (hn:n<len) :
  OpP P H ρ (.indexAddr T x i) (.eptr b sz (off+n.toNat) 0):=.idxR hx u.h c.h hi h0 hn
theorem OpP.cmp {op:BinOp} {U:TypeId} {y:Operand} {k:IntKind} {a b:Int} {r:Value} (hc:Fd op=true) (hx:ρ x=.v (.int k a)) (hy:ρ y=.v (.int k b)) (h:cj op k a b=some r):OpP P H ρ (.binOp op T x y U) (.v r):=.bin hx hy h
theorem OpT.stE [Inhabited α] [c:EC P T e sz ag z] {dst:Option Tmp} {b i:Nat} {l:List α} (hp:L.ev p=.eptr b sz i 0) (hb:L.heap b=some ⟨sz,l.map e,true⟩) (hx:L.ev x=e a) (hi:i<l.length) :
  OpT P L dst (.store T p x) ((L.setB b (some ⟨sz,(l.set i a).map e,true⟩)).put dst .any):=.storeM c.h hp hb hx c.t hi
theorem OpA.mkE {by_:Nat} [u:UN P T (.slice E)] [c:EC P E e sz ag z] [b:BI P E by_] {d n m:Nat} {kl kc:IntKind} (hl:ρ x=.v (.int kl (n:Nat))) (hc:ρ i=.v (.int kc (m:Nat))) (hnm:n≤m) (hm:by_*m≤281474976710656) (hm2:m≤9223372036854775807) :
  OpA P ρ d (.makeSlice T x i) (.ref d sz 0 n) ⟨sz,(List.replicate n z).map e,true⟩:=.makeM c.h u.h c.z c.t b.h hl hc hnm hm hm2
theorem OpA.bxE [c:EC P T e sz ag z] {d:Nat} (hx:ρ x=e a):OpA P ρ d (.box T x) (.eptr d sz 0 0) ⟨sz,[e a],true⟩:=.boxE c.h hx
theorem an {c:Operand} {x y:Code} {t:Bool} {u v:Prop} (hc:L.ev c=.v (.bool t)) (h1:t=true→u→wpL P x Q L) (h2:t=false→v→wpL P y Q L)
  (e1:(t=true)=u:=by exact F1) (e2:(t=false)=v:=by exact F1):wpL P (.cond c x y) Q L:=pY hc (fun h=>h1 h (e1 ▸ h)) (fun h=>h2 h (e2 ▸ h))
theorem OpA.alE [c:AE P T e sz ag z] {d:Nat}:OpA P ρ d (.alloc T) (.eptr d sz 0 0) ⟨sz,[e z],true⟩:=.allocE c.h c.z
theorem OpA.l0 [u:UN P T (.slice E)] [t:TI P E sz ag] {d:Nat}:OpA P ρ d (.buildSlice T 0 #[]) (.ref d sz 0 0) ⟨sz,[],true⟩:=.lit0 u.h t.h
theorem OpA.l1 [u:UN P T (.slice E)] [c:EC P E e sz ag z] {d:Nat} {x0:Operand} {a0:α} (h0:ρ x0=e a0) (hs0:0<sz:=by decide) (hs1:sz≤1000:=by decide):OpA P ρ d (.buildSlice T 1 #[(0,x0)]) (.ref d sz 0 1) ⟨sz,[a0].map e,true⟩:=.lit1 c.h u.h c.z c.t h0 hs0 hs1
theorem OpA.l2 [u:UN P T (.slice E)] [c:EC P E e sz ag z] {d:Nat} {x0 x1:Operand} {a0 a1:α} (h0:ρ x0=e a0) (h1:ρ x1=e a1) (hs0:0<sz:=by decide) (hs1:sz≤1000:=by decide):OpA P ρ d (.buildSlice T 2 #[(0,x0),(1,x1)]) (.ref d sz 0 2) ⟨sz,[a0,a1].map e,true⟩:=.lit2 c.h u.h c.z c.t h0 h1 hs0 hs1
theorem OpA.l3 [u:UN P T (.slice E)] [c:EC P E e sz ag z] {d:Nat} {x0 x1 x2:Operand} {a0 a1 a2:α} (h0:ρ x0=e a0) (h1:ρ x1=e a1) (h2:ρ x2=e a2) (hs0:0<sz:=by decide) (hs1:sz≤1000:=by decide):OpA P ρ d (.buildSlice T 3 #[(0,x0),(1,x1),(2,x2)]) (.ref d sz 0 3) ⟨sz,[a0,a1,a2].map e,true⟩:=.lit3 c.h u.h c.z c.t h0 h1 h2 hs0 hs1
theorem OpA.l4 [u:UN P T (.slice E)] [c:EC P E e sz ag z] {d:Nat} {x0 x1 x2 x3:Operand} {a0 a1 a2 a3:α} (h0:ρ x0=e a0) (h1:ρ x1=e a1) (h2:ρ x2=e a2) (h3:ρ x3=e a3) (hs0:0<sz:=by decide) (hs1:sz≤1000:=by decide):OpA P ρ d (.buildSlice T 4 #[(0,x0),(1,x1),(2,x2),(3,x3)]) (.ref d sz 0 4) ⟨sz,[a0,a1,a2,a3].map e,true⟩:=.lit4 c.h u.h c.z c.t h0 h1 h2 h3 hs0 hs1
theorem bT {dr:Bool} {ops:Array Oper} {l:List Oper} (d:Nat) {b:Bool} {u v:Prop} (h:L.slot d=.v (.bool b)) (ht:b=true→u→opsL P dr ops l L K) (hf:b=false→v→opsL P dr ops l L K)
  (e1:(b=true)=u:=by exact F1) (e2:(b=false)=v:=by exact F1):opsL P dr ops l L K:=tI h (fun h=>ht h (e1 ▸ h)) (fun h=>hf h (e2 ▸ h))
theorem OpP.bd {zs:List LV} {l:List (Nat × Bool)} {ps:Array (Nat × Operand)} [z:ZI P T (.agg zs)] [s:SI P T l] (h:zs.map lay=l) (hp:∀ p∈ps.toList,∃ z,zs[p.1]?=some z∧lay (ρ p.2)=lay z∧ρ p.2≠.any∧∀ m,ρ p.2≠.tup m) :
  OpP P H ρ (.build T ps) (.agg (dk zs (ps.toList.map fun p=>(p.1,ρ p.2)))):=.build (h ▸ s.h) z.h hp
end
namespace H0
theorem bQ {p q:Prop} (k:q) (e:p=q:=by simp only [e1,e2,e3,e4,p1,p2,p3,q1,q2,q3,l1,t0,t1,r1,r2,r3,r4,Nat.zero_add,Nat.reduceMul,Nat.reduceAdd,b1,b2,b3,b4,b5,b6,i1,i2,i3,i4,i5,i6,Nat.reduceBEq];exact rfl):p:=e.mpr k
end H0
theorem oo {p:Prop} (h:p:=by omega):p:=h
theorem om {p:Prop} (h:p:=by first | (refine bQ ?_;omega) | omega):p:=h
theorem nf {p:Prop} (h:p:=by first | (refine bQ ?_;exact rfl) | exact rfl):p:=h
theorem cl {p:Prop} (h:p:=by first | rfl | (refine bQ ?_;first | exact trivial | rfl | (congr 3<;>omega) | (congr 2<;>omega))):p:=h
theorem ml {p:Prop} (h:p:=by first | rfl | (refine bQ ?_;first | exact trivial | rfl | (congr 2<;>omega))):p:=h
theorem Jj:(!true)=false:=rfl
theorem Jr:(!false)=true:=rfl
theorem wW {p:Prop} (h:p:=by first | assumption | with_reducible rfl | with_reducible exact Jj | with_reducible exact Jr):p:=h
theorem gd {p:Prop} (h:p:=by first | exact rfl | exact ao (v:=true) rfl rfl wW rfl | exact ao (v:=false) rfl rfl wW rfl):p:=h
theorem IL {p:Prop} (h:p:=by first | (intro p hp;cases hp;done) | (simp only [List.forall_mem_cons];first | exact⟨⟨_,rfl,rfl,mT⟩,fun _ h=>by cases h⟩ | exact⟨⟨_,rfl,rfl,mT⟩,⟨_,rfl,rfl,mT⟩,fun _ h=>by cases h⟩ | exact⟨⟨_,rfl,rfl,mT⟩,⟨_,rfl,rfl,mT⟩,⟨_,rfl,rfl,mT⟩,fun _ h=>by cases h⟩ | exact⟨⟨_,rfl,rfl,mT⟩,⟨_,rfl,rfl,mT⟩,⟨_,rfl,rfl,mT⟩,⟨_,rfl,rfl,mT⟩,fun _ h=>by cases h⟩)):p:=h
theorem bK {p:Prop} (h:p:=by exact .cons fR .nil):p:=h
theorem bf {p:Prop} (h:p:=by exact .cons fR (.cons fR .nil)):p:=h
theorem jt {p:Prop} (h:p:=by exact .cons fR (.cons fR (.cons fR .nil))):p:=h
theorem Gc {p:Prop} (h:p:=by exact .nil):p:=h
theorem s4 {p:Prop} (h:p:=by exact .cons JU .nil):p:=h
section
variable {P:Program} {dr:Bool} {ops:Array Oper} {rest:List Oper} {L:St} {K:St→Prop} {dst:Option Tmp} {ty:TypeId} {pos:String} {af:Array Edge} {g:Option (Nat × Bool)}
theorem cp {f:FuncId} {xs:Array Operand} {as:Array TypeId} {args:List LV} {r:LV} (ha:ImmL L.heap (xs.toList.map L.ev) args) (hk:ap P f args r) (k:opsL P dr ops rest (L.put dst r) K)
  (hg:bc ops L ⟨dst,.call ⟨.value (.func f),xs,as⟩,ty,pos,af,g⟩ true:=by exact gd):opsL P dr ops (⟨dst,.call ⟨.value (.func f),xs,as⟩,ty,pos,af,g⟩ :: rest) L K:=ci hg ha hk k
theorem s5 {f:FuncId} {xs:Array Operand} {as:Array TypeId} {args:List LV} {r:LV} (bs:List Nat) (ha:ImmL (L.frz bs).heap (xs.toList.map L.ev) args) (hk:ap P f args r) (k:opsL P dr ops rest ((L.frz bs).put dst r) K)
  (hg:bc ops L ⟨dst,.call ⟨.value (.func f),xs,as⟩,ty,pos,af,g⟩ true:=by exact gd) (h0:bs.contains 0=false:=by exact rfl):opsL P dr ops (⟨dst,.call ⟨.value (.func f),xs,as⟩,ty,pos,af,g⟩ :: rest) L K:=o6 bs hg h0 ha hk k
end
def IJ {α:Type} (S:α→St→St) (C:α→Prop) (μ:α→Nat) (a:α) (L:St):Prop:=∃ a' L2,C a'∧μ a'<μ a∧aP L (S a' L2)
theorem gE {α:Type} {P:Program} {Q:LEx→St→Prop} {L:St} {k:Code} (S:α→St→St) (C:α→Prop) (μ:α→Nat) (a:α) (hC:C a) (hr:∀ a' L1,C a'→wpL P k (thenL (IJ S C μ a') Q) (S a' L1))
  (h0:∃ L1,aP L (S a L1):=by apply vq;repeat (first | exact aJ cl | refine aa ?_ cl)):wpL P (.loop k) Q L:=by
 refine mW (α:=α) (fun x=>S x) (fun x=>C x) (fun x=>μ x) a hC h0 ?_
 rintro a' L1 hc
 refine gD (fun e L h=>?_) (hr a' L1 hc)
 cases e with
 | normal =>
  obtain⟨a1,L2,h1,h2,h3⟩:=h
  exact⟨a1,L2,h1,h2,h3⟩
 | exit i=>exact h
 | ret=>exact h
theorem fA {α:Type} {S:α→St→St} {C:α→Prop} {μ:α→Nat} {a:α} {L L2:St} (a':α) (hc:C a') (hm:μ a'<μ a:=by omega) (he:aP L (S a' L2):=by apply aP.of_eq;repeat (first | exact aJ cl | refine aa ?_ cl)):IJ S C μ a L:=⟨a',L2,hc,hm,he⟩
def IF {α β:Type} (S:α→β→St→St) (C:α→β→Prop) (μ:α→β→Nat) (a:α) (b:β) (L:St):Prop:=∃ a' b' L2,C a' b'∧μ a' b'<μ a b∧aP L (S a' b' L2)
theorem ik {α β:Type} {P:Program} {Q:LEx→St→Prop} {L:St} {k:Code} (S:α→β→St→St) (C:α→β→Prop) (μ:α→β→Nat) (a:α) (b:β) (hC:C a b) (hr:∀ a' b' L1,C a' b'→wpL P k (thenL (IF S C μ a' b') Q) (S a' b' L1))
  (h0:∃ L1,aP L (S a b L1):=by apply vq;repeat (first | exact aJ cl | refine aa ?_ cl)):wpL P (.loop k) Q L:=by
 refine mW (α:=α × β) (fun x=>S x.1 x.2) (fun x=>C x.1 x.2) (fun x=>μ x.1 x.2) (a,b) hC h0 ?_
 rintro⟨a',b'⟩ L1 hc
 refine gD (fun e L h=>?_) (hr a' b' L1 hc)
 cases e with
 | normal =>
  obtain⟨a1,b1,L2,h1,h2,h3⟩:=h
  exact⟨(a1,b1),L2,h1,h2,h3⟩
 | exit i=>exact h
 | ret=>exact h
theorem gk {α β:Type} {S:α→β→St→St} {C:α→β→Prop} {μ:α→β→Nat} {a:α} {b:β} {L L2:St} (a':α) (b':β) (hc:C a' b') (hm:μ a' b'<μ a b:=by omega) (he:aP L (S a' b' L2):=by apply aP.of_eq;repeat (first | exact aJ cl | refine aa ?_ cl)):IF S C μ a b L:=⟨a',b',L2,hc,hm,he⟩
def Ix {α β γ:Type} (S:α→β→γ→St→St) (C:α→β→γ→Prop) (μ:α→β→γ→Nat) (a:α) (b:β) (c:γ) (L:St):Prop:=∃ a' b' c' L2,C a' b' c'∧μ a' b' c'<μ a b c∧aP L (S a' b' c' L2)
theorem tp {α β γ:Type} {P:Program} {Q:LEx→St→Prop} {L:St} {k:Code} (S:α→β→γ→St→St) (C:α→β→γ→Prop) (μ:α→β→γ→Nat) (a:α) (b:β) (c:γ) (hC:C a b c) (hr:∀ a' b' c' L1,C a' b' c'→wpL P k (thenL (Ix S C μ a' b' c') Q) (S a' b' c' L1))
  (h0:∃ L1,aP L (S a b c L1):=by apply vq;repeat (first | exact aJ cl | refine aa ?_ cl)):wpL P (.loop k) Q L:=by
 refine mW (α:=α × β × γ) (fun x=>S x.1 x.2.1 x.2.2) (fun x=>C x.1 x.2.1 x.2.2) (fun x=>μ x.1 x.2.1 x.2.2) (a,b,c) hC h0 ?_
 rintro⟨a',b',c'⟩ L1 hc
 refine gD (fun e L h=>?_) (hr a' b' c' L1 hc)
 cases e with
 | normal =>
  obtain⟨a1,b1,c1,L2,h1,h2,h3⟩:=h
  exact⟨(a1,b1,c1),L2,h1,h2,h3⟩
 | exit i=>exact h
 | ret=>exact h
theorem rb {α β γ:Type} {S:α→β→γ→St→St} {C:α→β→γ→Prop} {μ:α→β→γ→Nat} {a:α} {b:β} {c:γ} {L L2:St} (a':α) (b':β) (c':γ) (hc:C a' b' c') (hm:μ a' b' c'<μ a b c:=by omega) (he:aP L (S a' b' c' L2):=by apply aP.of_eq;repeat (first | exact aJ cl | refine aa ?_ cl)):Ix S C μ a b c L:=⟨a',b',c',L2,hc,hm,he⟩
def IM {α β γ δ:Type} (S:α→β→γ→δ→St→St) (C:α→β→γ→δ→Prop) (μ:α→β→γ→δ→Nat) (a:α) (b:β) (c:γ) (d:δ) (L:St):Prop:=∃ a' b' c' d' L2,C a' b' c' d'∧μ a' b' c' d'<μ a b c d∧aP L (S a' b' c' d' L2)
theorem EY {α β γ δ:Type} {P:Program} {Q:LEx→St→Prop} {L:St} {k:Code} (S:α→β→γ→δ→St→St) (C:α→β→γ→δ→Prop) (μ:α→β→γ→δ→Nat) (a:α) (b:β) (c:γ) (d:δ) (hC:C a b c d) (hr:∀ a' b' c' d' L1,C a' b' c' d'→wpL P k (thenL (IM S C μ a' b' c' d') Q) (S a' b' c' d' L1))
  (h0:∃ L1,aP L (S a b c d L1):=by apply vq;repeat (first | exact aJ cl | refine aa ?_ cl)):wpL P (.loop k) Q L:=by
 refine mW (α:=α × β × γ × δ) (fun x=>S x.1 x.2.1 x.2.2.1 x.2.2.2) (fun x=>C x.1 x.2.1 x.2.2.1 x.2.2.2) (fun x=>μ x.1 x.2.1 x.2.2.1 x.2.2.2) (a,b,c,d) hC h0 ?_
 rintro⟨a',b',c',d'⟩ L1 hc
 refine gD (fun e L h=>?_) (hr a' b' c' d' L1 hc)
 cases e with
 | normal =>
  obtain⟨a1,b1,c1,d1,L2,h1,h2,h3⟩:=h
  exact⟨(a1,b1,c1,d1),L2,h1,h2,h3⟩
 | exit i=>exact h
 | ret=>exact h
theorem Ev {α β γ δ:Type} {S:α→β→γ→δ→St→St} {C:α→β→γ→δ→Prop} {μ:α→β→γ→δ→Nat} {a:α} {b:β} {c:γ} {d:δ} {L L2:St} (a':α) (b':β) (c':γ) (d':δ) (hc:C a' b' c' d') (hm:μ a' b' c' d'<μ a b c d:=by omega) (he:aP L (S a' b' c' d' L2):=by apply aP.of_eq;repeat (first | exact aJ cl | refine aa ?_ cl)):IM S C μ a b c d L:=⟨a',b',c',d',L2,hc,hm,he⟩
structure V3 where
 x:Rat
 y:Rat
 z:Rat
instance:Inhabited V3:=⟨⟨0,0,0⟩⟩
def cQ (p:V3):LV:=.agg [ratL p.x,ratL p.y,ratL p.z]
theorem cT:EncOK cQ 9 true:=by
 refine⟨fun s=>?_,fun s=>rfl,fun s=>?_⟩<;>simp [cQ,LV.csize,ay,LV.pure,aD,ah.csize,ah.pure]
structure PoR where
 p:V3
 w:Rat
instance:Inhabited PoR:=⟨⟨⟨0,0,0⟩,0⟩⟩
def dX (q:PoR):LV:=.agg [cQ q.p,ratL q.w]
theorem cA:EncOK dX 12 true:=by
 refine⟨fun s=>?_,fun s=>rfl,fun s=>?_⟩<;>simp [dX,LV.csize,ay,LV.pure,aD,ah.csize,ah.pure,cT.csize,cT.pure]
theorem dp (l:List LV):(LV.agg l).isAgg=true:=rfl
theorem qj (c:Value):(LV.v c).isAgg=false:=rfl
theorem Is {p:Prop} (h:p:=by(simp only [List.forall_mem_cons];simp [lay,LV.csize,ay,dp,qj,ah.csize,fb.csize,ah.isAgg,fb.isAgg])):p:=h
theorem cs {p:Prop} (h:p:=by first | exact rfl | (simp [LV.csize,ay,lay,dp,qj,ah.csize,fb.csize,cT.csize,cA.csize,ah.isAgg,fb.isAgg,cT.isAgg,cA.isAgg];done)):p:=h
theorem pu {p:Prop} (h:p:=by first | exact rfl | (simp [LV.pure,aD,ah.pure,fb.pure,cT.pure,cA.pure, *];done)):p:=h
theorem bX {y:LV} {n:Nat} (hy:y.csize=n) (ha:y.isAgg=true):y.at 0 n true=some y:=by
 cases y with
 | agg l=>simp only [LV.csize] at hy;simp [LV.at,hy]
 | _=>cases ha
theorem qT (a b:Rat):(ratL a).put 0 (ratL b)=some (ratL b):=lR _ _ (by rw [ah.csize,ah.csize]) (by rw [ah.isAgg,ah.isAgg])
theorem Ee (a b:Rat × Rat):(spL a).put 0 (spL b)=some (spL b):=lR _ _ (by rw [fb.csize,fb.csize]) (by rw [fb.isAgg,fb.isAgg])
theorem C7 (s:Rat × Rat) (r:Rat):(spL s).put 0 (ratL r)=some (spL (r,s.2)):=by
 rw [im,im];simp [LV.put,ll,ay,ah.csize,ah.isAgg,qT]
theorem Dz (s:Rat × Rat) (r:Rat):(spL s).put 3 (ratL r)=some (spL (s.1,r)):=by
 rw [im,im];simp [LV.put,ll,ay,ah.csize,ah.isAgg,qT]
theorem G7 {p:Prop} (h:p:=by first | exact bX (y:=cQ _) (cT.csize _) rfl | exact bX (y:=dX _) (cA.csize _) rfl | exact rfl | (simp only [hY,List.take_succ_cons,List.take_zero,List.take_nil,LV.at,rI,cQ,dX,bX,am,f6,xT,w5,LV.csize,ay,ah.csize,fb.csize,ah.isAgg,fb.isAgg,Nat.reduceAdd,Nat.reduceLT,Nat.reduceSub,Nat.reduceMul,Nat.add_zero,Nat.zero_add,Int.toNat_natCast,Int.reduceToNat,Int.reduceAdd,Nat.reduceEqDiff,reduceIte,and_true,true_and,and_false,false_and,if_true,if_false,Bool.false_eq_true,Bool.true_eq_false,eq_self,Nat.sub_zero,Nat.lt_irrefl,Nat.sub_self,Nat.zero_mul,Nat.zero_lt_succ]<;>exact rfl)):p:=h
theorem HM {p:Prop} (h:p:=by first | exact rfl | (simp only [hY,List.take_succ_cons,List.take_zero,List.take_nil,LV.put,ll,cQ,dX,LV.csize,ay,dp,qj,ah.csize,fb.csize,ah.isAgg,fb.isAgg,qT,Ee,C7,Dz,Option.map_some,Nat.reduceAdd,Nat.reduceLT,Nat.reduceSub,Nat.reduceMul,Nat.add_zero,Nat.zero_add,Int.toNat_natCast,Int.reduceToNat,Int.reduceAdd,Nat.reduceEqDiff,reduceIte,and_true,true_and,and_false,false_and,if_true,if_false,Bool.false_eq_true,Bool.true_eq_false,eq_self,Nat.sub_zero,Nat.lt_irrefl,Nat.sub_self,Nat.zero_mul,Nat.zero_lt_succ]<;>exact rfl)):p:=h
section
variable {P:Program} {H:bI} {ρ:Operand→LV} {T E:TypeId} {p x i:Operand} {n sz:Nat} {ag:Bool} {fs:List LV} {r:LV} {k:IntKind} {m:Int} {b o j:Nat}
theorem OpP.ixa [u:UN P T (.array n E)] [t:TI P E sz ag] (hx:ρ x=.agg fs) (hi:ρ i=.v (.int k m)) (h0:0≤m) (hr:fs[m.toNat]?=some r) (hp:r.pure=true) (hf:fs.map lay=List.replicate n (sz,ag)):OpP P H ρ (.index T x i) r:=.idxA hx u.h t.h hf hi h0 hr hp
theorem OpP.ixe [u:UN P T (.array n E)] [t:TI P E sz ag] {s2:Nat} (hx:ρ x=.eptr b s2 j o) (hi:ρ i=.v (.int k m)) (h0:0≤m) (hm:m<n):OpP P H ρ (.indexAddr T x i) (.eptr b s2 j (o+m.toNat*sz)):=.idxAE hx u.h t.h hi h0 hm
theorem OpP.ixb [u:UN P T (.array n E)] [t:TI P E sz ag] (hx:ρ x=.boxp (.agg fs)) (hi:ρ i=.v (.int k m)) (h0:0≤m) (hr:fs[m.toNat]?=some r) (hf:fs.map lay=List.replicate n (sz,ag)):OpP P H ρ (.indexAddr T x i) (.boxp r):=.idxAB hx u.h t.h hf hi h0 hr
theorem OpP.bda {zs:List LV} {ps:Array (Nat × Operand)} [u:UN P T (.array n E)] [t:TI P E sz ag] [z:ZI P T (.agg zs)] (h:∀ z∈zs,lay z=(sz,ag)) (hp:∀ p∈ps.toList,∃ z,zs[p.1]?=some z∧lay (ρ p.2)=lay z∧ρ p.2≠.any∧∀ m,ρ p.2≠.tup m) :
  OpP P H ρ (.build T ps) (.agg (dk zs (ps.toList.map fun p=>(p.1,ρ p.2)))):=.buildA u.h t.h h z.h hp
theorem OpP.bda3 {o0 o1 o2:Operand} {a b c:Rat} [u:UN P T (.array 3 E)] [t:TI P E 3 true] [z:ZI P T (.agg [ratL 0,ratL 0,ratL 0])] (h0:ρ o0=ratL a) (h1:ρ o1=ratL b) (h2:ρ o2=ratL c) :
  OpP P H ρ (.build T #[(0,o0),(1,o1),(2,o2)]) (.agg [ratL a,ratL b,ratL c]):=by
 have:=OpP.bda (H:=H) (ρ:=ρ) (ps:=#[(0,o0),(1,o1),(2,o2)]) (u:=u) (t:=t) (z:=z) (by simp [lay,ah.csize,ah.isAgg]) (by
  intro p hp
  simp only [List.mem_cons,List.not_mem_nil,or_false] at hp
  rcases hp with rfl | rfl | rfl
  ·exact⟨_,rfl,by rw [h0];simp [lay,ah.csize,ah.isAgg],by rw [h0];exact LV.pure_ne_any (ah.pure _),by rw [h0];exact LV.pure_ne_tup (ah.pure _)⟩
  ·exact⟨_,rfl,by rw [h1];simp [lay,ah.csize,ah.isAgg],by rw [h1];exact LV.pure_ne_any (ah.pure _),by rw [h1];exact LV.pure_ne_tup (ah.pure _)⟩
  ·exact⟨_,rfl,by rw [h2];simp [lay,ah.csize,ah.isAgg],by rw [h2];exact LV.pure_ne_any (ah.pure _),by rw [h2];exact LV.pure_ne_tup (ah.pure _)⟩)
 simpa only [dk,List.map,List.foldl,List.set,h0,h1,h2] using this
theorem OpP.bda4 {o0 o1 o2 o3:Operand} {a b c d:Rat} [u:UN P T (.array 4 E)] [t:TI P E 3 true] [z:ZI P T (.agg [ratL 0,ratL 0,ratL 0,ratL 0])] (h0:ρ o0=ratL a) (h1:ρ o1=ratL b) (h2:ρ o2=ratL c) (h3:ρ o3=ratL d) :
  OpP P H ρ (.build T #[(0,o0),(1,o1),(2,o2),(3,o3)]) (.agg [ratL a,ratL b,ratL c,ratL d]):=by
 have:=OpP.bda (H:=H) (ρ:=ρ) (ps:=#[(0,o0),(1,o1),(2,o2),(3,o3)]) (u:=u) (t:=t) (z:=z) (by simp [lay,ah.csize,ah.isAgg]) (by
  intro p hp
  simp only [List.mem_cons,List.not_mem_nil,or_false] at hp
  rcases hp with rfl | rfl | rfl | rfl
  ·exact⟨_,rfl,by rw [h0];simp [lay,ah.csize,ah.isAgg],by rw [h0];exact LV.pure_ne_any (ah.pure _),by rw [h0];exact LV.pure_ne_tup (ah.pure _)⟩
  ·exact⟨_,rfl,by rw [h1];simp [lay,ah.csize,ah.isAgg],by rw [h1];exact LV.pure_ne_any (ah.pure _),by rw [h1];exact LV.pure_ne_tup (ah.pure _)⟩
  ·exact⟨_,rfl,by rw [h2];simp [lay,ah.csize,ah.isAgg],by rw [h2];exact LV.pure_ne_any (ah.pure _),by rw [h2];exact LV.pure_ne_tup (ah.pure _)⟩
  ·exact⟨_,rfl,by rw [h3];simp [lay,ah.csize,ah.isAgg],by rw [h3];exact LV.pure_ne_any (ah.pure _),by rw [h3];exact LV.pure_ne_tup (ah.pure _)⟩)
 simpa only [dk,List.map,List.foldl,List.set,h0,h1,h2,h3] using this
theorem OpP.bda2 {o0 o1:Operand} {a b:Rat} [u:UN P T (.array 2 E)] [t:TI P E 3 true] [z:ZI P T (.agg [ratL 0,ratL 0])] (h0:ρ o0=ratL a) (h1:ρ o1=ratL b):OpP P H ρ (.build T #[(0,o0),(1,o1)]) (.agg [ratL a,ratL b]):=by
 have:=OpP.bda (H:=H) (ρ:=ρ) (ps:=#[(0,o0),(1,o1)]) (u:=u) (t:=t) (z:=z) (by simp [lay,ah.csize,ah.isAgg]) (by
  intro p hp
  simp only [List.mem_cons,List.not_mem_nil,or_false] at hp
  rcases hp with rfl | rfl
  ·exact⟨_,rfl,by rw [h0];simp [lay,ah.csize,ah.isAgg],by rw [h0];exact LV.pure_ne_any (ah.pure _),by rw [h0];exact LV.pure_ne_tup (ah.pure _)⟩
  ·exact⟨_,rfl,by rw [h1];simp [lay,ah.csize,ah.isAgg],by rw [h1];exact LV.pure_ne_any (ah.pure _),by rw [h1];exact LV.pure_ne_tup (ah.pure _)⟩)
 simpa only [dk,List.map,List.foldl,List.set,h0,h1] using this
theorem OpP.bdq3 {o0 o1 o2:Operand} {a b c d e f:Rat} [u:UN P T (.array 3 E)] [t:TI P E 6 true] [z:ZI P T (.agg [.agg [ratL 0,ratL 0],.agg [ratL 0,ratL 0],.agg [ratL 0,ratL 0]])]
  (h0:ρ o0=.agg [ratL a,ratL b]) (h1:ρ o1=.agg [ratL c,ratL d]) (h2:ρ o2=.agg [ratL e,ratL f]):OpP P H ρ (.build T #[(0,o0),(1,o1),(2,o2)]) (.agg [.agg [ratL a,ratL b],.agg [ratL c,ratL d],.agg [ratL e,ratL f]]):=by
 have:=OpP.bda (H:=H) (ρ:=ρ) (ps:=#[(0,o0),(1,o1),(2,o2)]) (u:=u) (t:=t) (z:=z) (by simp [lay,LV.csize,ay,ah.csize,dp]) (by
  intro p hp
  simp only [List.mem_cons,List.not_mem_nil,or_false] at hp
  rcases hp with rfl | rfl | rfl
  ·exact⟨_,rfl,by rw [h0];simp [lay,LV.csize,ay,ah.csize,dp],by rw [h0];exact(fun h=>LV.noConfusion h),by rw [h0];exact(fun _ h=>LV.noConfusion h)⟩
  ·exact⟨_,rfl,by rw [h1];simp [lay,LV.csize,ay,ah.csize,dp],by rw [h1];exact(fun h=>LV.noConfusion h),by rw [h1];exact(fun _ h=>LV.noConfusion h)⟩
  ·exact⟨_,rfl,by rw [h2];simp [lay,LV.csize,ay,ah.csize,dp],by rw [h2];exact(fun h=>LV.noConfusion h),by rw [h2];exact(fun _ h=>LV.noConfusion h)⟩)
 simpa only [dk,List.map,List.foldl,List.set,h0,h1,h2] using this
theorem OpP.ldp {vals:List LV} {y:LV} {mt:Bool} [t:TI P T n ag] (hp:ρ p=.eptr b sz j o) (hb:H b=some ⟨sz,vals,mt⟩) (hi:vals[j]?=some y) (hy:y.csize=sz) (hr:y.at o n ag=some r):OpP P H ρ (.load T p) r:=.loadE hp hb rfl hi hy hr t.h
theorem OpP.ldbx {c:LV} [t:TI P T n ag] (hp:ρ p=.boxp c) (hc:c.pure=true) (hs:c.csize=n) (ha:c.isAgg=ag):OpP P H ρ (.load T p) c:=.loadB hp (by rw [hs,ha];exact t.h) hc
theorem OpT.stp {L:St} {vals:List LV} {y y' v:LV} {dst:Option Tmp} [t:TI P T n ag] (hp:L.ev p=.eptr b sz j o) (hb:L.heap b=some ⟨sz,vals,true⟩) (hi:vals[j]?=some y) (hx:L.ev x=v) (hy:y.csize=sz) (hv:v.csize=n) (hva:v.isAgg=ag) (hput:y.put o v=some y') (hne:v≠.any∧∀ m,v≠.tup m) :
  OpT P L dst (.store T p x) ((L.setB b (some ⟨sz,vals.set j y',true⟩)).put dst .any):=.store hp hb rfl rfl hi hy (by rw [hx];exact hput) (by rw [hx,hv,hva];exact t.h) (by rw [hx];exact hne)
end
theorem I7 {z x:LV} {zs:List LV} {k:Nat} (h1:zs[k]?=some z) (h2:lay x=lay z) (h3:x≠.any∧∀ m,x≠.tup m):∃ z,zs[k]?=some z∧lay x=lay z∧x≠.any∧∀ m,x≠.tup m:=⟨z,h1,h2,h3⟩
theorem A5 {p:Prop} (h:p:=by(simp only [List.forall_mem_cons];repeat (first | exact(fun _ h=>by cases h) | refine⟨I7 rfl cs mT,?_⟩))):p:=h
structure Hold (q:Prop):Prop where
 h:q
theorem fS {P:Program} {H:bI} {ρ:Operand→LV} {T:TypeId} {p:Operand} {x:LV} (h:OpP P H ρ (.load T p) x:=by first | (apply OpP.ldB;exact rfl) | exact .ldRat rfl rfl rfl TI.h | exact .ldSp rfl rfl rfl TI.h | (apply OpP.ldE;exact rfl;exact rfl;exact om) | exact .ldLo rfl rfl rfl TI.h | exact .ldHi rfl rfl rfl TI.h | exact .ldDen rfl rfl rfl TI.h | exact .ldNum rfl rfl rfl TI.h | exact .ldNeg rfl rfl rfl TI.h | exact .loadE rfl rfl rfl rfl rfl rfl TI.h | (apply OpP.ldp;exact rfl;exact rfl;exact rfl;exact cs;exact G7) | (apply OpP.ldbx;exact rfl;exact pu;exact cs;exact cs)):OpP P H ρ (.load T p) x:=h
section
variable {P:Program} {H:bI} {ρ:Operand→LV} {T U:TypeId} {x y:Operand}
theorem OpP.aI {a b:Int} (hx:ρ x=.v (.int .i64 a)) (hy:ρ y=.v (.int .i64 b)) (h1:-9223372036854775808≤a+b) (h2:a+b≤9223372036854775807):OpP P H ρ (.binOp .add T x y U) (.v (.int .i64 (a+b))):=.bin hx hy (ez h1 h2)
theorem OpP.sI {a b:Int} (hx:ρ x=.v (.int .i64 a)) (hy:ρ y=.v (.int .i64 b)) (h1:-9223372036854775808≤a-b) (h2:a-b≤9223372036854775807):OpP P H ρ (.binOp .sub T x y U) (.v (.int .i64 (a-b))):=.bin hx hy (eo h1 h2)
theorem OpP.mI {a b:Int} (hx:ρ x=.v (.int .i64 a)) (hy:ρ y=.v (.int .i64 b)) (h1:-9223372036854775808≤a*b) (h2:a*b≤9223372036854775807):OpP P H ρ (.binOp .mul T x y U) (.v (.int .i64 (a*b))):=.bin hx hy (l9 h1 h2)
theorem OpP.aU {a b:Nat} (hx:ρ x=.v (.int .u64 (a:Nat))) (hy:ρ y=.v (.int .u64 (b:Nat))) (h:a+b<18446744073709551616):OpP P H ρ (.binOp .add T x y U) (.v (.int .u64 ((a+b:Nat):Int))):=.bin hx hy (FB h)
theorem OpP.mU {a b:Nat} (hx:ρ x=.v (.int .u64 (a:Nat))) (hy:ρ y=.v (.int .u64 (b:Nat))) (h:a*b<18446744073709551616):OpP P H ρ (.binOp .mul T x y U) (.v (.int .u64 ((a*b:Nat):Int))):=.bin hx hy (od h)
theorem OpP.sU {a b:Nat} (hx:ρ x=.v (.int .u64 (a:Nat))) (hy:ρ y=.v (.int .u64 (b:Nat))) (h:b≤a) (h1:a<18446744073709551616):OpP P H ρ (.binOp .sub T x y U) (.v (.int .u64 ((a-b:Nat):Int))):=.bin hx hy (FA h h1)
theorem OpP.qU {a b:Nat} (hx:ρ x=.v (.int .u64 (a:Nat))) (hy:ρ y=.v (.int .u64 (b:Nat))) (h:0<b) (h1:a<18446744073709551616):OpP P H ρ (.binOp .quo T x y U) (.v (.int .u64 ((a/b:Nat):Int))):=.bin hx hy (rG h h1)
theorem OpP.rU {a b:Nat} (hx:ρ x=.v (.int .u64 (a:Nat))) (hy:ρ y=.v (.int .u64 (b:Nat))) (h:0<b):OpP P H ρ (.binOp .rem T x y U) (.v (.int .u64 ((a % b:Nat):Int))):=.bin hx hy (Ed h)
theorem OpP.oU {a b:Nat} (hx:ρ x=.v (.int .u64 ((a*4294967296:Nat):Int))) (hy:ρ y=.v (.int .u64 (b:Nat))) (h:b<4294967296) (h1:a<4294967296):OpP P H ρ (.binOp .or T x y U) (.v (.int .u64 ((a*4294967296+b:Nat):Int))):=.bin hx hy (II h h1)
theorem OpP.hl {a:Nat} {k:IntKind} (hx:ρ x=.v (.int .u64 (a:Nat))) (hy:ρ y=.v (.int k 32)) (h:a*4294967296<18446744073709551616):OpP P H ρ (.binOp .shl T x y U) (.v (.int .u64 ((a*4294967296:Nat):Int))):=.sh hx hy (rJ h)
theorem OpP.hr {a:Nat} {k:IntKind} (hx:ρ x=.v (.int .u64 (a:Nat))) (hy:ρ y=.v (.int k 32)):OpP P H ρ (.binOp .shr T x y U) (.v (.int .u64 ((a/4294967296:Nat):Int))):=.sh hx hy EI
theorem OpP.hs63 {a:Nat} {k:IntKind} (hx:ρ x=.v (.int .u64 (a:Nat))) (hy:ρ y=.v (.int k 63)):OpP P H ρ (.binOp .shr T x y U) (.v (.int .u64 ((a/9223372036854775808:Nat):Int))):=.sh hx hy EE
end
theorem IK {P:Program} {H:bI} {ρ:Operand→LV} {o:BinOp} {T U:TypeId} {p y:Operand} {x:LV} (h:OpP P H ρ (.binOp o T p y U) x:=by first | (apply OpP.cmp;exact rfl;exact rfl;exact rfl;exact rfl) | (apply OpP.aI;exact rfl;exact rfl;exact om;exact om) | (apply OpP.sI;exact rfl;exact rfl;exact om;exact om) | (apply OpP.mI;exact rfl;exact rfl;exact om;exact om) | (apply OpP.aU;exact rfl;exact rfl;exact om) | (apply OpP.mU;exact rfl;exact rfl;exact om) | (apply OpP.sU;exact rfl;exact rfl;exact om;exact om) | (apply OpP.qU;exact rfl;exact rfl;exact om;exact om) | (apply OpP.rU;exact rfl;exact rfl;exact om) | (apply OpP.oU;exact rfl;exact rfl;exact om;exact om) | (apply OpP.hl;exact rfl;exact rfl;exact om) | (apply OpP.hr;exact rfl;exact rfl) | (apply OpP.hs63;exact rfl;exact rfl) | (apply OpP.beq;exact rfl;exact rfl;exact UN.h) | (apply OpP.bne;exact rfl;exact rfl;exact UN.h)):OpP P H ρ (.binOp o T p y U) x:=h
theorem vp {P:Program} {H:bI} {ρ:Operand→LV} {b:Builtin} {xs:Array Operand} {as:Array TypeId} {x:LV} (h:OpP P H ρ (.call ⟨.builtin b,xs,as⟩) x:=by first | exact .lenLm rfl rfl UN.h | exact .lenL rfl rfl UN.h | exact .lenR rfl rfl UN.h | exact .lenN rfl rfl UN.h | exact .min2 rfl rfl | exact .max2 rfl rfl):OpP P H ρ (.call ⟨.builtin b,xs,as⟩) x:=h
theorem IR {P:Program} {L L':St} {dst:Option Tmp} {T:TypeId} {p x:Operand} (h:OpT P L dst (.store T p x) L':=by first | exact .stRat rfl rfl rfl rfl TI.h | exact .stR1 rfl rfl rfl TI.h | exact .stSp rfl rfl rfl TI.h | (apply OpT.stE;exact rfl;exact rfl;exact rfl;exact om) | exact .store rfl rfl rfl rfl rfl rfl rfl TI.h mT | (apply OpT.stp;exact rfl;exact rfl;exact rfl;(first | exact(rfl:_=ratL _) | exact(rfl:_=cQ _) | exact(rfl:_=dX _) | exact(rfl:_=spL _) | exact(rfl:_=LV.agg _) | exact rfl);exact cs;exact cs;exact cs;exact HM;exact mT)):OpT P L dst (.store T p x) L':=h
theorem IP {P:Program} {H:bI} {ρ:Operand→LV} {S D:TypeId} {p:Operand} {x:LV} (h:OpP P H ρ (.convert S D p) x:=by first | exact .cv32 UN.h UN.h rfl | (apply OpP.cv64;exact UN.h;exact UN.h;exact rfl;exact om) | (apply OpP.cvI;exact UN.h;exact UN.h;exact rfl;exact om;exact om) | exact .conv UN.h UN.h rfl):OpP P H ρ (.convert S D p) x:=h
theorem DR {P:Program} {T:TypeId} {l:List (Nat × Bool)} {fs:List LV} (h:ck P T l) (e:fs.map lay=l):ck P T (fs.map lay):=e ▸ h
theorem Fc {P:Program} {H:bI} {ρ:Operand→LV} {T:TypeId} {p i:Operand} {x:LV} (h:OpP P H ρ (.index T p i) x:=by(apply OpP.ixa;exact rfl;exact rfl;exact om;exact rfl;exact pu;exact cs)):OpP P H ρ (.index T p i) x:=h
theorem gI {P:Program} {H:bI} {ρ:Operand→LV} {T:TypeId} {p:Operand} {k:Nat} {x:LV} (h:OpP P H ρ (.fieldAddr T p k) x:=by first | exact .fieldAddrE rfl SI.h (by decide) | exact .fieldAddrB rfl SI.h rfl | (refine .fieldAddrB rfl (DR SI.h cs) rfl)):OpP P H ρ (.fieldAddr T p k) x:=h
theorem qN {P:Program} {H:bI} {ρ:Operand→LV} {T:TypeId} {p i:Operand} {x:LV} (h:OpP P H ρ (.indexAddr T p i) x:=by first | (apply OpP.ixL;exact rfl;exact rfl;exact om;exact om) | (apply OpP.ixR;exact rfl;exact rfl;exact om;exact om) | (apply OpP.ixe;exact rfl;exact rfl;exact om;exact om) | (apply OpP.ixb;exact rfl;exact rfl;exact om;exact rfl;exact cs)):OpP P H ρ (.indexAddr T p i) x:=h
section
variable {P:Program} {dr:Bool} {ops:Array Oper} {rest:List Oper} {L L':St} {K:St→Prop} {dst:Option Tmp} {d:Nat} {ty:TypeId} {pos:String} {af:Array Edge} {j:Nat} {w:Bool} {r:LV} {bk:Blk}
theorem Gu {T:TypeId} {p:Operand} (h:OpP P L.heap L.ev (.load T p) r) (kk:opsL P dr ops rest (L.put dst r) K):opsL P dr ops (⟨dst,(.load T p),ty,pos,af,none⟩ :: rest) L K:=ab rfl h kk
theorem G3 {T:TypeId} {p:Operand} (hg:bc ops L ⟨dst,(.load T p),ty,pos,af,some (j,w)⟩ true) (h:OpP P L.heap L.ev (.load T p) r) (kk:opsL P dr ops rest (L.put dst r) K):opsL P dr ops (⟨dst,(.load T p),ty,pos,af,some (j,w)⟩ :: rest) L K:=ab hg h kk
theorem GV {o:BinOp} {T U:TypeId} {p y:Operand} (h:OpP P L.heap L.ev (.binOp o T p y U) r) (kk:opsL P dr ops rest (L.put dst r) K):opsL P dr ops (⟨dst,(.binOp o T p y U),ty,pos,af,none⟩ :: rest) L K:=ab rfl h kk
theorem Gr {o:BinOp} {T U:TypeId} {p y:Operand} (hg:bc ops L ⟨dst,(.binOp o T p y U),ty,pos,af,some (j,w)⟩ true) (h:OpP P L.heap L.ev (.binOp o T p y U) r) (kk:opsL P dr ops rest (L.put dst r) K):opsL P dr ops (⟨dst,(.binOp o T p y U),ty,pos,af,some (j,w)⟩ :: rest) L K:=ab hg h kk
theorem Ig {b:Builtin} {xs:Array Operand} {as:Array TypeId} (h:OpP P L.heap L.ev (.call ⟨.builtin b,xs,as⟩) r) (kk:opsL P dr ops rest (L.put dst r) K):opsL P dr ops (⟨dst,(.call ⟨.builtin b,xs,as⟩),ty,pos,af,none⟩ :: rest) L K:=ab rfl h kk
theorem H2 {b:Builtin} {xs:Array Operand} {as:Array TypeId} (hg:bc ops L ⟨dst,(.call ⟨.builtin b,xs,as⟩),ty,pos,af,some (j,w)⟩ true) (h:OpP P L.heap L.ev (.call ⟨.builtin b,xs,as⟩) r) (kk:opsL P dr ops rest (L.put dst r) K):opsL P dr ops (⟨dst,(.call ⟨.builtin b,xs,as⟩),ty,pos,af,some (j,w)⟩ :: rest) L K:=ab hg h kk
theorem HF {T:TypeId} {p:Operand} {k:Nat} (h:OpP P L.heap L.ev (.fieldAddr T p k) r) (kk:opsL P dr ops rest (L.put dst r) K):opsL P dr ops (⟨dst,(.fieldAddr T p k),ty,pos,af,none⟩ :: rest) L K:=ab rfl h kk
theorem GS {T:TypeId} {p:Operand} {k:Nat} (hg:bc ops L ⟨dst,(.fieldAddr T p k),ty,pos,af,some (j,w)⟩ true) (h:OpP P L.heap L.ev (.fieldAddr T p k) r) (kk:opsL P dr ops rest (L.put dst r) K):opsL P dr ops (⟨dst,(.fieldAddr T p k),ty,pos,af,some (j,w)⟩ :: rest) L K:=ab hg h kk
theorem Hd {T:TypeId} {p y:Operand} (h:OpP P L.heap L.ev (.index T p y) r) (kk:opsL P dr ops rest (L.put dst r) K):opsL P dr ops (⟨dst,(.index T p y),ty,pos,af,none⟩ :: rest) L K:=ab rfl h kk
theorem Gm {T:TypeId} {p y:Operand} (hg:bc ops L ⟨dst,(.index T p y),ty,pos,af,some (j,w)⟩ true) (h:OpP P L.heap L.ev (.index T p y) r) (kk:opsL P dr ops rest (L.put dst r) K):opsL P dr ops (⟨dst,(.index T p y),ty,pos,af,some (j,w)⟩ :: rest) L K:=ab hg h kk
theorem HT {T:TypeId} {p y:Operand} (h:OpP P L.heap L.ev (.indexAddr T p y) r) (kk:opsL P dr ops rest (L.put dst r) K):opsL P dr ops (⟨dst,(.indexAddr T p y),ty,pos,af,none⟩ :: rest) L K:=ab rfl h kk
theorem HH {T:TypeId} {p y:Operand} (hg:bc ops L ⟨dst,(.indexAddr T p y),ty,pos,af,some (j,w)⟩ true) (h:OpP P L.heap L.ev (.indexAddr T p y) r) (kk:opsL P dr ops rest (L.put dst r) K):opsL P dr ops (⟨dst,(.indexAddr T p y),ty,pos,af,some (j,w)⟩ :: rest) L K:=ab hg h kk
theorem HE {p:Operand} {k:Nat} (h:OpP P L.heap L.ev (.extract p k) r) (kk:opsL P dr ops rest (L.put dst r) K):opsL P dr ops (⟨dst,(.extract p k),ty,pos,af,none⟩ :: rest) L K:=ab rfl h kk
theorem GJ {p:Operand} {k:Nat} (hg:bc ops L ⟨dst,(.extract p k),ty,pos,af,some (j,w)⟩ true) (h:OpP P L.heap L.ev (.extract p k) r) (kk:opsL P dr ops rest (L.put dst r) K):opsL P dr ops (⟨dst,(.extract p k),ty,pos,af,some (j,w)⟩ :: rest) L K:=ab hg h kk
theorem GM {p y z:Operand} (h:OpP P L.heap L.ev (.pick p y z) r) (kk:opsL P dr ops rest (L.put dst r) K):opsL P dr ops (⟨dst,(.pick p y z),ty,pos,af,none⟩ :: rest) L K:=ab rfl h kk
theorem G1 {p y z:Operand} (hg:bc ops L ⟨dst,(.pick p y z),ty,pos,af,some (j,w)⟩ true) (h:OpP P L.heap L.ev (.pick p y z) r) (kk:opsL P dr ops rest (L.put dst r) K):opsL P dr ops (⟨dst,(.pick p y z),ty,pos,af,some (j,w)⟩ :: rest) L K:=ab hg h kk
theorem H9 {T U:TypeId} {p:Operand} (h:OpP P L.heap L.ev (.convert T U p) r) (kk:opsL P dr ops rest (L.put dst r) K):opsL P dr ops (⟨dst,(.convert T U p),ty,pos,af,none⟩ :: rest) L K:=ab rfl h kk
theorem Gx {T U:TypeId} {p:Operand} (hg:bc ops L ⟨dst,(.convert T U p),ty,pos,af,some (j,w)⟩ true) (h:OpP P L.heap L.ev (.convert T U p) r) (kk:opsL P dr ops rest (L.put dst r) K):opsL P dr ops (⟨dst,(.convert T U p),ty,pos,af,some (j,w)⟩ :: rest) L K:=ab hg h kk
theorem G9 {u:UnOp} {T:TypeId} {p:Operand} (h:OpP P L.heap L.ev (.unOp u T p) r) (kk:opsL P dr ops rest (L.put dst r) K):opsL P dr ops (⟨dst,(.unOp u T p),ty,pos,af,none⟩ :: rest) L K:=ab rfl h kk
theorem H3 {u:UnOp} {T:TypeId} {p:Operand} (hg:bc ops L ⟨dst,(.unOp u T p),ty,pos,af,some (j,w)⟩ true) (h:OpP P L.heap L.ev (.unOp u T p) r) (kk:opsL P dr ops rest (L.put dst r) K):opsL P dr ops (⟨dst,(.unOp u T p),ty,pos,af,some (j,w)⟩ :: rest) L K:=ab hg h kk
theorem Ic {T:TypeId} {p:Operand} {k:Nat} (h:OpP P L.heap L.ev (.field T p k) r) (kk:opsL P dr ops rest (L.put dst r) K):opsL P dr ops (⟨dst,(.field T p k),ty,pos,af,none⟩ :: rest) L K:=ab rfl h kk
theorem He {T:TypeId} {p:Operand} {k:Nat} (hg:bc ops L ⟨dst,(.field T p k),ty,pos,af,some (j,w)⟩ true) (h:OpP P L.heap L.ev (.field T p k) r) (kk:opsL P dr ops rest (L.put dst r) K):opsL P dr ops (⟨dst,(.field T p k),ty,pos,af,some (j,w)⟩ :: rest) L K:=ab hg h kk
theorem Hv {p:Operand} (h:OpP P L.heap L.ev (.nilCheck p) r) (kk:opsL P dr ops rest (L.put dst r) K):opsL P dr ops (⟨dst,(.nilCheck p),ty,pos,af,none⟩ :: rest) L K:=ab rfl h kk
theorem Gv {p:Operand} (hg:bc ops L ⟨dst,(.nilCheck p),ty,pos,af,some (j,w)⟩ true) (h:OpP P L.heap L.ev (.nilCheck p) r) (kk:opsL P dr ops rest (L.put dst r) K):opsL P dr ops (⟨dst,(.nilCheck p),ty,pos,af,some (j,w)⟩ :: rest) L K:=ab hg h kk
theorem jc {T:TypeId} {ps:Array (Nat × Operand)} (h:OpP P L.heap L.ev (.build T ps) r) (kk:opsL P dr ops rest (L.put dst r) K):opsL P dr ops (⟨dst,(.build T ps),ty,pos,af,none⟩ :: rest) L K:=ab rfl h kk
theorem HG {T:TypeId} {ps:Array (Nat × Operand)} (hg:bc ops L ⟨dst,(.build T ps),ty,pos,af,some (j,w)⟩ true) (h:OpP P L.heap L.ev (.build T ps) r) (kk:opsL P dr ops rest (L.put dst r) K):opsL P dr ops (⟨dst,(.build T ps),ty,pos,af,some (j,w)⟩ :: rest) L K:=ab hg h kk
theorem GO {p:Operand} (hg:bc ops L ⟨dst,(.move p),ty,pos,af,some (j,w)⟩ true) (h:OpP P L.heap L.ev (.move p) r) (kk:opsL P dr ops rest (L.put dst r) K):opsL P dr ops (⟨dst,(.move p),ty,pos,af,some (j,w)⟩ :: rest) L K:=ab hg h kk
theorem Ii {p:Operand} (hg:bc ops L ⟨dst,(.assign p),ty,pos,af,some (j,w)⟩ true) (h:OpP P L.heap L.ev (.assign p) r) (kk:opsL P dr ops rest (L.put dst r) K):opsL P dr ops (⟨dst,(.assign p),ty,pos,af,some (j,w)⟩ :: rest) L K:=ab hg h kk
theorem G0 {T:TypeId} {p:Operand} (hd:L.heap d=none) (h:OpA P L.ev d (.box T p) r bk) (kk:opsL P dr ops rest ((L.setB d (some bk)).put (some d) r) K):opsL P dr ops (⟨some d,(.box T p),ty,pos,af,none⟩ :: rest) L K:=bM rfl hd h kk
theorem Gj {T:TypeId} {p:Operand} (hg:bc ops L ⟨some d,(.box T p),ty,pos,af,some (j,w)⟩ true) (hd:L.heap d=none) (h:OpA P L.ev d (.box T p) r bk) (kk:opsL P dr ops rest ((L.setB d (some bk)).put (some d) r) K):opsL P dr ops (⟨some d,(.box T p),ty,pos,af,some (j,w)⟩ :: rest) L K:=bM hg hd h kk
theorem HB {T:TypeId} (hd:L.heap d=none) (h:OpA P L.ev d (.alloc T) r bk) (kk:opsL P dr ops rest ((L.setB d (some bk)).put (some d) r) K):opsL P dr ops (⟨some d,(.alloc T),ty,pos,af,none⟩ :: rest) L K:=bM rfl hd h kk
theorem Il {T:TypeId} (hg:bc ops L ⟨some d,(.alloc T),ty,pos,af,some (j,w)⟩ true) (hd:L.heap d=none) (h:OpA P L.ev d (.alloc T) r bk) (kk:opsL P dr ops rest ((L.setB d (some bk)).put (some d) r) K):opsL P dr ops (⟨some d,(.alloc T),ty,pos,af,some (j,w)⟩ :: rest) L K:=bM hg hd h kk
theorem Hi {T:TypeId} {n:Nat} {ps:Array (Nat × Operand)} (hd:L.heap d=none) (h:OpA P L.ev d (.buildSlice T n ps) r bk) (kk:opsL P dr ops rest ((L.setB d (some bk)).put (some d) r) K):opsL P dr ops (⟨some d,(.buildSlice T n ps),ty,pos,af,none⟩ :: rest) L K:=bM rfl hd h kk
theorem GY {T:TypeId} {n:Nat} {ps:Array (Nat × Operand)} (hg:bc ops L ⟨some d,(.buildSlice T n ps),ty,pos,af,some (j,w)⟩ true) (hd:L.heap d=none) (h:OpA P L.ev d (.buildSlice T n ps) r bk) (kk:opsL P dr ops rest ((L.setB d (some bk)).put (some d) r) K):opsL P dr ops (⟨some d,(.buildSlice T n ps),ty,pos,af,some (j,w)⟩ :: rest) L K:=bM hg hd h kk
theorem GL {T:TypeId} {p y:Operand} (h:OpT P L dst (.store T p y) L') (kk:opsL P dr ops rest L' K):opsL P dr ops (⟨dst,.store T p y,ty,pos,af,none⟩ :: rest) L K:=aK rfl h kk
theorem Gs {T:TypeId} {p y:Operand} (hg:bc ops L ⟨dst,.store T p y,ty,pos,af,some (j,w)⟩ true) (h:OpT P L dst (.store T p y) L') (kk:opsL P dr ops rest L' K):opsL P dr ops (⟨dst,.store T p y,ty,pos,af,some (j,w)⟩ :: rest) L K:=aK hg h kk
theorem Gl {op:Op} (hg:bc ops L ⟨dst,op,ty,pos,af,some (j,w)⟩ false) (kk:opsL P dr ops rest (L.put dst (.tup [])) K):opsL P dr ops (⟨dst,op,ty,pos,af,some (j,w)⟩ :: rest) L K:=fY hg kk
end
theorem qA {p:Prop} (h:p:=by first | exact ao (v:=true) rfl rfl wW rfl | exact ao (v:=false) rfl rfl wW rfl):p:=h
theorem Jo {p:Prop} (h:p:=by first | exact ao (v:=true) rfl rfl wW rfl | exact ao (v:=false) rfl rfl wW rfl | exact Dc rfl rfl):p:=h
theorem jY {p q:Prop} (k:q) (h:Hold q→p:=by intro kk;first | (apply CU;exact kk.h) | (apply DJ;exact kk.h) | (apply mv;exact kk.h) | (apply IV;exact kk.h) | (apply fk;exact nf;exact kk.h) | (apply Ei;exact kk.h) | (apply Gu;exact fS;exact kk.h) | (apply GV;exact IK;exact kk.h) | (apply Ig;exact vp;exact kk.h) | (apply HF;exact gI;exact kk.h) | (apply HT;exact qN;exact kk.h) | (apply Hd;exact Fc;exact kk.h) | (apply HE;exact .extract rfl rfl IN;exact kk.h) | (apply GL;exact IR;exact kk.h) | (apply G0;exact rfl;(first | (apply OpA.bxE;exact rfl) | exact .box mT);exact kk.h) | (apply HB;exact rfl;(first | exact .alE | exact .alloc ZI.h);exact kk.h) | (apply GM;(first | exact .pickT rfl wW | exact .pickF rfl wW);exact kk.h) | (apply H9;exact IP;exact kk.h) | (apply G9;(first | exact .not rfl | exact .neg rfl);exact kk.h) | (apply Ic;(first | exact .field rfl SI.h rfl rfl | exact .field rfl (DR SI.h cs) rfl pu);exact kk.h) | (apply Hi;exact rfl;(first | (apply OpA.l1;exact rfl;decide;decide) | exact .l0 | (apply OpA.l2;exact rfl;exact rfl;decide;decide) | (apply OpA.l3;exact rfl;exact rfl;exact rfl;decide;decide) | (apply OpA.l4;exact rfl;exact rfl;exact rfl;exact rfl;decide;decide));exact kk.h) | (apply jc;(first | exact .bda3 rfl rfl rfl | exact .bda4 rfl rfl rfl rfl | exact .bda2 rfl rfl | exact .bdq3 rfl rfl rfl | exact .buildSp SI.h ZI.h rfl rfl | exact .bd rfl IL | exact .bd cs A5 | exact .bda Is A5);exact kk.h) | (apply Hv;(first | exact .nilChkE rfl | exact .nilChkB rfl);exact kk.h) | (apply As;exact kk.h) | (apply zQ;exact kk.h) | (apply Dm;exact kk.h) | (apply Fb;exact kk.h) | (apply E9;exact kk.h) | (apply aR;exact rfl;exact wW;exact kk.h) | (apply bb;exact rfl;exact wW;exact kk.h) | (apply Dl;exact kk.h) | (apply Dh;exact kk.h) | (apply A1;exact kk.h) | (apply Fp;exact kk.h) | (apply EF;decide;exact kk.h) | (apply Gl;exact Jo;exact kk.h) | (apply GO;exact qA;(exact .move _);exact kk.h) | (apply G3;exact qA;(exact fS);exact kk.h) | (apply Gr;exact qA;(exact IK);exact kk.h) | (apply H2;exact qA;(exact vp);exact kk.h) | (apply GS;exact qA;(exact gI);exact kk.h) | (apply HH;exact qA;(exact qN);exact kk.h) | (apply Gm;exact qA;(exact Fc);exact kk.h) | (apply GJ;exact qA;(exact .extract rfl rfl IN);exact kk.h) | (apply Gs;exact qA;exact IR;exact kk.h) | (apply Ii;exact qA;(exact .assign _);exact kk.h) | (apply Gj;exact qA;exact rfl;(first | (apply OpA.bxE;exact rfl) | exact .box mT);exact kk.h) | (apply Il;exact qA;exact rfl;(first | exact .alE | exact .alloc ZI.h);exact kk.h) | (apply G1;exact qA;(first | exact .pickT rfl wW | exact .pickF rfl wW);exact kk.h) | (apply Gx;exact qA;(exact IP);exact kk.h) | (apply H3;exact qA;(first | exact .not rfl | exact .neg rfl);exact kk.h) | (apply He;exact qA;(first | exact .field rfl SI.h rfl rfl | exact .field rfl (DR SI.h cs) rfl pu);exact kk.h) | (apply GY;exact qA;exact rfl;(first | (apply OpA.l1;exact rfl;decide;decide) | exact .l0 | (apply OpA.l2;exact rfl;exact rfl;decide;decide) | (apply OpA.l3;exact rfl;exact rfl;exact rfl;decide;decide) | (apply OpA.l4;exact rfl;exact rfl;exact rfl;exact rfl;decide;decide));exact kk.h) | (apply HG;exact qA;(first | exact .buildSp SI.h ZI.h rfl rfl | exact .bd rfl IL | exact .bd cs A5 | exact .bda Is A5);exact kk.h) | (apply Gv;exact qA;(first | exact .nilChkE rfl | exact .nilChkB rfl);exact kk.h)):p:=h ⟨k⟩
theorem aL {p q:Prop} (k:q) (h:Hold q→p:=by intro hq;(iterate 1 refine jY ?_);exact hq.h):p:=h ⟨k⟩
theorem bG {p q:Prop} (k:q) (h:Hold q→p:=by intro hq;(iterate 2 refine jY ?_);exact hq.h):p:=h ⟨k⟩
theorem bx {p q:Prop} (k:q) (h:Hold q→p:=by intro hq;(iterate 3 refine jY ?_);exact hq.h):p:=h ⟨k⟩
theorem bw {p q:Prop} (k:q) (h:Hold q→p:=by intro hq;(iterate 4 refine jY ?_);exact hq.h):p:=h ⟨k⟩
theorem ca {p q:Prop} (k:q) (h:Hold q→p:=by intro hq;(iterate 5 refine jY ?_);exact hq.h):p:=h ⟨k⟩
theorem bJ {p q:Prop} (k:q) (h:Hold q→p:=by intro hq;(iterate 6 refine jY ?_);exact hq.h):p:=h ⟨k⟩
theorem bV {p q:Prop} (k:q) (h:Hold q→p:=by intro hq;(iterate 7 refine jY ?_);exact hq.h):p:=h ⟨k⟩
theorem cx {p q:Prop} (k:q) (h:Hold q→p:=by intro hq;(iterate 8 refine jY ?_);exact hq.h):p:=h ⟨k⟩
theorem cg {p q:Prop} (k:q) (h:Hold q→p:=by intro hq;(iterate 9 refine jY ?_);exact hq.h):p:=h ⟨k⟩
theorem bv {p q:Prop} (k:q) (h:Hold q→p:=by intro hq;(iterate 10 refine jY ?_);exact hq.h):p:=h ⟨k⟩
theorem bD {p q:Prop} (k:q) (h:Hold q→p:=by intro hq;(iterate 11 refine jY ?_);exact hq.h):p:=h ⟨k⟩
theorem bE {p q:Prop} (k:q) (h:Hold q→p:=by intro hq;(iterate 12 refine jY ?_);exact hq.h):p:=h ⟨k⟩
theorem ct {p q:Prop} (k:q) (h:Hold q→p:=by intro hq;(iterate 13 refine jY ?_);exact hq.h):p:=h ⟨k⟩
theorem dI {p q:Prop} (k:q) (h:Hold q→p:=by intro hq;(iterate 14 refine jY ?_);exact hq.h):p:=h ⟨k⟩
theorem en {p q:Prop} (k:q) (h:Hold q→p:=by intro hq;(iterate 15 refine jY ?_);exact hq.h):p:=h ⟨k⟩
theorem ie {p q:Prop} (k:q) (h:Hold q→p:=by intro hq;(iterate 16 refine jY ?_);exact hq.h):p:=h ⟨k⟩
theorem iP {p q:Prop} (k:q) (h:Hold q→p:=by intro hq;(iterate 17 refine jY ?_);exact hq.h):p:=h ⟨k⟩
theorem je {p q:Prop} (k:q) (h:Hold q→p:=by intro hq;(iterate 18 refine jY ?_);exact hq.h):p:=h ⟨k⟩
theorem ia {p q:Prop} (k:q) (h:Hold q→p:=by intro hq;(iterate 19 refine jY ?_);exact hq.h):p:=h ⟨k⟩
theorem ib {p q:Prop} (k:q) (h:Hold q→p:=by intro hq;(iterate 20 refine jY ?_);exact hq.h):p:=h ⟨k⟩
theorem tz {p q:Prop} (k:q) (h:Hold q→p:=by intro hq;(iterate 21 refine jY ?_);exact hq.h):p:=h ⟨k⟩
theorem uj {p q:Prop} (k:q) (h:Hold q→p:=by intro hq;(iterate 22 refine jY ?_);exact hq.h):p:=h ⟨k⟩
theorem uv {p q:Prop} (k:q) (h:Hold q→p:=by intro hq;(iterate 23 refine jY ?_);exact hq.h):p:=h ⟨k⟩
theorem tk {p q:Prop} (k:q) (h:Hold q→p:=by intro hq;(iterate 24 refine jY ?_);exact hq.h):p:=h ⟨k⟩
theorem vU {p q:Prop} (k:q) (h:Hold q→p:=by intro hq;(iterate 25 refine jY ?_);exact hq.h):p:=h ⟨k⟩
theorem Gq {p q:Prop} (k:q) (h:Hold q→p:=by intro hq;(iterate 26 refine jY ?_);exact hq.h):p:=h ⟨k⟩
theorem Hs {p q:Prop} (k:q) (h:Hold q→p:=by intro hq;(iterate 27 refine jY ?_);exact hq.h):p:=h ⟨k⟩
theorem FE {p q:Prop} (k:q) (h:Hold q→p:=by intro hq;(iterate 28 refine jY ?_);exact hq.h):p:=h ⟨k⟩
theorem GU {p q:Prop} (k:q) (h:Hold q→p:=by intro hq;(iterate 31 refine jY ?_);exact hq.h):p:=h ⟨k⟩
theorem HW {p q:Prop} (k:q) (h:Hold q→p:=by intro hq;(iterate 33 refine jY ?_);exact hq.h):p:=h ⟨k⟩
theorem EN {p q:Prop} (k:q) (h:Hold q→p:=by intro hq;(iterate 34 refine jY ?_);exact hq.h):p:=h ⟨k⟩
theorem HQ {p q:Prop} (k:q) (h:Hold q→p:=by intro hq;(iterate 49 refine jY ?_);exact hq.h):p:=h ⟨k⟩
theorem Hh {p q:Prop} (k:q) (h:Hold q→p:=by intro hq;(iterate 54 refine jY ?_);exact hq.h):p:=h ⟨k⟩
theorem Ik {p q:Prop} (k:q) (h:Hold q→p:=by intro hq;(iterate 57 refine jY ?_);exact hq.h):p:=h ⟨k⟩
end Go.Lg
end
