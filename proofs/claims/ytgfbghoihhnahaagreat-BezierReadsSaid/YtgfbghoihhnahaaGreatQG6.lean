/- Texts K2, K10, K7, K6b, K11, K14, K16, P4, K17, K18, P5, K15, K20, K21, K23, K24, K25 of this proof, joined. -/
import Derived.Test.YtgfbghoihhnahaaGreatQG5
set_option linter.unusedVariables false
set_option linter.unusedSimpArgs false
section
set_option linter.unusedVariables false
set_option linter.unusedSimpArgs false
set_option maxHeartbeats 8000000
set_option maxRecDepth 100000
attribute [local irreducible] Go.Lg.opsL Go.Lg.wpL Go.Lg.thenL Go.Lg.blockL
namespace Go.Proofs.YtgfbghoihhnahaaGreat
open Go.Lg
def d3V (l:List Int) (k:Nat):V3:=⟨(nbV l k).1,(nbV l (nbV l k).2).1,(nbV l (nbV l (nbV l k).2).2).1⟩
def d3K (l:List Int) (k:Nat):Nat:=(nbV l (nbV l (nbV l k).2).2).2
theorem d3_rl (l:List Int) (k:Nat):bd3 1 (d3V l k):=⟨nb_rl _ _,nb_rl _ _,nb_rl _ _⟩
theorem d3K_le {l:List Int} {k:Nat} (hl:l.length≤500) (hk:k≤500):d3K l k≤500:=nbK_le hl (nbK_le hl (nbK_le hl hk))
def dwV (l:List Int) (k:Nat):Rat:=((1+(nxV l k 3).tmod 3:Int):Rat)
def dpV (l:List Int) (k:Nat):PoR:=⟨d3V l k,dwV l (d3K l k)⟩
def dpK (l:List Int) (k:Nat):Nat:=nxK l (d3K l k)
theorem dw_in (l:List Int) (k:Nat):1≤1+(nxV l k 3).tmod 3∧1+(nxV l k 3).tmod 3≤3:=by
 have h:=nxV_lt (l:=l) (k:=k) (n:=3) (by decide)
 rw [Int.tmod_eq_emod_of_nonneg h.1]
 omega
theorem dw_rl (l:List Int) (k:Nat):rl (dwV l k)≤1:=by
 have:=dw_in l k
 exact rl_int (by omega)
theorem dw_pos (l:List Int) (k:Nat):0<dwV l k:=by
 have:=dw_in l k
 exact Rat.intCast_pos.2 (by omega)
theorem dpK_le {l:List Int} {k:Nat} (hl:l.length≤500) (hk:k≤500):dpK l k≤500:=nxK_le hl (d3K_le hl hk)
def dqV (l:List Int):Nat→Nat→List PoR
 | _,0=>[]
 | k,c+1=>dpV l k :: dqV l (dpK l k) c
def dqK (l:List Int):Nat→Nat→Nat
 | k,0=>k
 | k,c+1=>dqK l (dpK l k) c
theorem dqV_len (l:List Int):∀ k c,(dqV l k c).length=c
 | _,0=>rfl
 | k,c+1=>by simp [dqV,dqV_len l]
theorem dqV_ok (l:List Int):∀ k c,∀ q∈dqV l k c,okP 1 q
 | _,0,q,h=>by simp [dqV] at h
 | k,c+1,q,h=>by
  simp only [dqV,List.mem_cons] at h
  rcases h with rfl | h
  ·exact⟨d3_rl l k,dw_rl _ _,dw_pos _ _⟩
  ·exact dqV_ok l _ c q h
def kn0 (d:Nat) (t:Rat):List Rat:=List.replicate (d+1) t++List.replicate (d+1) (t+1)
theorem kn0_len (d:Nat) (t:Rat):(kn0 d t).length=2*(d+1):=by simp [kn0];omega
def dtV (l:List Int) (k:Nat):Rat:=((nxV l k 4-2:Int):Rat)
theorem dt_rl (l:List Int) (k:Nat):rl (dtV l k)≤1∧rl (dtV l k+1)≤1:=by
 have h:=nxV_lt (l:=l) (k:=k) (n:=4) (by decide)
 refine⟨rl_int (by omega),?_⟩
 have e:dtV l k+1=((nxV l k 4-1:Int):Rat):=by
  unfold dtV
  rw [show nxV l k 4-1=(nxV l k 4-2)+1 by omega,Rat.intCast_add];rfl
 rw [e]
 exact rl_int (by omega)
def cD (l:List Int) (k:Nat) (n:Nat):Nat:=(1+nxV l k (n:Int)).toNat
def cT (l:List Int) (k:Nat):Rat:=dtV l (nxK l k)
def cP (l:List Int) (k:Nat) (n:Nat):List PoR:=dqV l (nxK l (nxK l (nxK l k))) (cD l k n+1)
def cK (l:List Int) (k:Nat) (n:Nat):Nat:=dqK l (nxK l (nxK l (nxK l k))) (cD l k n+1)
theorem cD_in (l:List Int) (k:Nat) {n:Nat} (hn:0<n):1≤cD l k n∧cD l k n≤n∧(cD l k n:Int)=1+nxV l k (n:Int):=by
 have h:=nxV_lt (l:=l) (k:=k) (n:=(n:Int)) (by omega)
 unfold cD
 omega
theorem cP_len (l:List Int) (k n:Nat):(cP l k n).length=cD l k n+1:=dqV_len _ _ _
theorem cP_ok (l:List Int) (k n:Nat):∀ q∈cP l k n,okP 1 q:=dqV_ok _ _ _
theorem any_3 {P:Program} {ops:Array Oper} {D:Array Bool} {L:St} {K:St→Prop} {fuel:Nat} (i j k:Nat) (o o2 o3:Oper) (hr:Region.ready .any ops D=[i,j,k]) (ho:ops[i]?=some o) (ho2:ops[j]?=some o2) (ho3:ops[k]?=some o3)
  (h:opsL P false ops [o] L (fun L'=>anyL P ops fuel (D.setIfInBounds i true) L' K)) (h2:opsL P false ops [o2] L (fun L'=>anyL P ops fuel (D.setIfInBounds j true) L' K)) (h3:opsL P false ops [o3] L (fun L'=>anyL P ops fuel (D.setIfInBounds k true) L' K)):anyL P ops (fuel+1) D L K:=by
 simp only [opsL] at h h2 h3
 refine⟨fun e=>(by rw [hr] at e;cases e),fun x hx=>?_⟩
 rw [hr] at hx
 simp only [List.mem_cons,List.not_mem_nil,or_false] at hx
 rcases hx with rfl | rfl | rfl
 ·obtain⟨L',h1,h4⟩:=h
  exact⟨o,L',ho,h1,h4⟩
 ·obtain⟨L',h1,h4⟩:=h2
  exact⟨o2,L',ho2,h1,h4⟩
 ·obtain⟨L',h1,h4⟩:=h3
  exact⟨o3,L',ho3,h1,h4⟩
theorem nxV1 (l:List Int) (k:Nat):nxV l k 1=0:=by
 have:=nxV_lt (l:=l) (k:=k) (n:=1) (by decide)
 omega
theorem rep_snoc {α:Type} (n:Nat) (t:α):List.replicate n t++[t]=List.replicate (n+1) t:=by
 rw [List.replicate_succ']
section
variable {P:Program} {H:Heap} {ρ:Operand→LV} {T:TypeId}
theorem bdPo {o0 o1:Operand} {p:V3} {r:Rat} [z:ZI P T (.agg [.agg [ratL 0,ratL 0,ratL 0],ratL 0])] [s:SI P T [(9,true),(3,true)]] (h0:ρ o0=ptL p) (h1:ρ o1=ratL r) :
  OpP P H ρ (.build T #[(0,o0),(1,o1)]) (poL ⟨p,r⟩):=by
 have:=OpP.bd (H:=H) (ρ:=ρ) (ps:=#[(0,o0),(1,o1)]) (z:=z) (s:=s) (by simp [lay,LV.csize,csizes,ratE.csize,ratE.isAgg,isAgg_agg]) (by
  intro q hq
  simp only [List.mem_cons,List.not_mem_nil,or_false] at hq
  rcases hq with rfl | rfl
  ·exact⟨_,rfl,by rw [h0];simp [lay,ptE.csize,LV.csize,csizes,ratE.csize];rfl,by rw [h0];exact LV.pure_ne_any (ptE.pure _),by rw [h0];exact LV.pure_ne_tup (ptE.pure _)⟩
  ·exact⟨_,rfl,by rw [h1];simp [lay,ratE.csize,ratE.isAgg],by rw [h1];exact LV.pure_ne_any (ratE.pure _),by rw [h1];exact LV.pure_ne_tup (ratE.pure _)⟩)
 simp only [buildL,List.map,List.foldl,List.set,h0,h1] at this
 exact this
end
def knL (d:Nat) (T:Rat):Nat→List Rat
 | 0=>List.replicate (d+1) T
 | i+1=>knL d T i++[T+1]
theorem knL_eq (d:Nat) (T:Rat):∀ i,knL d T i=List.replicate (d+1) T++List.replicate i (T+1)
 | 0=>by rw [knL,List.replicate_zero,List.append_nil]
 | i+1=>by rw [knL,knL_eq d T i,List.append_assoc,List.replicate_succ' (n:=i)]
theorem knL_len (d:Nat) (T:Rat) (i:Nat):(knL d T i).length=d+1+i:=by rw [knL_eq];simp
theorem knL_end (d:Nat) (T:Rat):knL d T (d+1)=kn0 d T:=knL_eq d T (d+1)
theorem retMCf {P:Program} {L:St} {a:Nat} {T:TypeId} {b sz:Nat} {x y:LV} {m:Bool} {n:Nat} {ag:Bool} {blk:Blk} (bs:List Nat) (h0:bs.contains 0=false) (h:L.slot a=.eptr b sz 0 0) (hb:L.heap b=some ⟨sz,[x],m⟩)
  (hx:x.csize=sz) (hat:x.at 0 n ag=some x) (hT:TyIs P T n ag) (hi:Imm (L.frz bs).heap x y) (hc:(L.frz bs).heap 0=some blk) (hm:blk.mt=true) (hp:pures blk.vals=true):RetM P [.cell a T] L y blk :=
 ⟨[x],[y],(L.frz bs).heap,.cons ⟨b,sz,0,0,_,x,n,ag,h,hb,rfl,rfl,hx,hat,hT⟩ .nil,frz_le bs h0,.cons (.imm hi) .nil,hc,hm,hp,rfl⟩
namespace H_c_DPoint
theorem zSm {p q:Prop} (k:q) (e:p=q:=by simp only [e1,e2,e3,e4,p1,p2,p3,q1,q2,q3,l1,t0,t1,r1,r2,r3,r4,Nat.zero_add,Nat.reduceMul,Nat.reduceAdd,b1,b2,b3,b4,b5,b6,i1,i2,i3,i4,i5,i6,Nat.reduceBEq,l1,List.set_cons_zero,List.set_cons_succ,Nat.reduceEqDiff,reduceIte,if_true,if_false,ptL_kill,poL_kill,kills_map poE,kills_map ratE,ratL_kill,spL_kill,LV.kill,kills,dice_kill];exact rfl):p:=e.mpr k
end H_c_DPoint
open H_c_DPoint in
theorem c_DPoint (l:List Int) (k:Nat) (hl:l.length≤500) (hk:k≤500):CallOKM Tryz.prog 17 ⟨2,[diceL l k],true⟩ [.eptr 0 2 0 0] (ptL (d3V l k)) ⟨2,[diceL l (d3K l k)],true⟩:=by
 have k1:=nbK_le (l:=l) hl hk
 have k2:=nbK_le (l:=l) hl k1
 refine fnM Tryz.func17 ?_
 refine zg8 ?_
 refine st_callMp 0 rfl rfl rfl (dice_pure l _) (.cons .ptr .nil) .ptr (c_number l k (by omega) (by omega)) rfl (dice_pure l _) (ratE.pure _) ?_
 refine zg1 ?_
 refine st_callMp 0 rfl rfl rfl (dice_pure l _) (.cons .ptr .nil) .ptr (c_number l (nbV l k).2 (by omega) (by omega)) rfl (dice_pure l _) (ratE.pure _) ?_
 refine zg1 ?_
 refine st_callMp 0 rfl rfl rfl (dice_pure l _) (.cons .ptr .nil) .ptr (c_number l (nbV l (nbV l k).2).2 (by omega) (by omega)) rfl (dice_pure l _) (ratE.pure _) ?_
 refine zg5 ?_
 exact retMC rfl rfl cs (at_all cs rfl) T31 (.pure pu) rfl rfl (dice_pure l _)
namespace H_c_Dpole
theorem zSm {p q:Prop} (k:q) (e:p=q:=by simp only [e1,e2,e3,e4,p1,p2,p3,q1,q2,q3,l1,t0,t1,r1,r2,r3,r4,Nat.zero_add,Nat.reduceMul,Nat.reduceAdd,b1,b2,b3,b4,b5,b6,i1,i2,i3,i4,i5,i6,Nat.reduceBEq,l1,List.set_cons_zero,List.set_cons_succ,Nat.reduceEqDiff,reduceIte,if_true,if_false,ptL_kill,poL_kill,kills_map poE,kills_map ratE,ratL_kill,spL_kill,LV.kill,kills,dice_kill];exact rfl):p:=e.mpr k
end H_c_Dpole
open H_c_Dpole in
theorem c_Dpole (l:List Int) (k:Nat) (hl:l.length≤500) (hk:k≤500):CallOKM Tryz.prog 102 ⟨2,[diceL l k],true⟩ [.eptr 0 2 0 0,bL false] (poL (dpV l k)) ⟨2,[diceL l (dpK l k)],true⟩:=by
 have k1:=d3K_le (l:=l) hl hk
 have hb:=nxV_lt (l:=l) (k:=d3K l k) (n:=3) (by decide)
 have hd:=dw_in l (d3K l k)
 refine fnM Tryz.func102 ?_
 refine zg8 ?_
 refine st_callMp 0 rfl rfl rfl (dice_pure l _) (.cons .ptr .nil) .ptr (c_DPoint l k (by omega) (by omega)) rfl (dice_pure l _) (ptE.pure _) ?_
 refine zg10 ?_
 refine wl_if rfl (fun h8r h8=>?_) (fun h8r h8=>?_)
 ·first | exact h8.elim | cases h8r
 ·refine zg3 ?_
  refine wl_regA ?_
  refine any_2 0 1 _ _ (by decide +kernel) rfl rfl ?_ ?_
  ·refine zg1 ?_
   refine st_nil ?_
   refine any_1 1 _ (by decide +kernel) rfl ?_
   refine zg1 ?_
   refine st_nil ?_
   refine any_1 2 _ (by decide +kernel) rfl ?_
   refine st_callMp 0 rfl rfl rfl (dice_pure l _) (.cons .ptr (.cons (.imm (.pure rfl)) .nil)) .ptr (c_Next l (d3K l k) 3 (by omega) (by omega) (by omega) (by omega)) rfl (dice_pure l _) rfl ?_
   refine st_nil ?_
   refine any_1 3 _ (by decide +kernel) rfl ?_
   refine st_pure rfl (.bin rfl rfl (rem64 (by decide))) ?_
   refine st_nil ?_
   refine any_1 4 _ (by decide +kernel) rfl ?_
   refine st_pure rfl (.bin rfl rfl (add64 (by omega) (by omega))) ?_
   refine st_nil ?_
   refine any_1 5 _ (by decide +kernel) rfl ?_
   refine cp am1 (c_FInt (1+(nxV l (d3K l k) 3).tmod 3) (by omega) (by omega)) ?_
   refine st_nil ?_
   refine any_1 6 _ (by decide +kernel) rfl ?_
   refine s0bd (bdPo rfl rfl) ?_
   refine st_nil ?_
   refine any_1 7 _ (by decide +kernel) rfl ?_
   refine zg1 ?_
   refine st_nil ?_
   refine any_0 (by decide +kernel) ?_
   refine zg2 ?_
   exact retMC rfl rfl cs (at_all cs rfl) T100 (.pure pu) rfl rfl (dice_pure l _)
  ·refine zg1 ?_
   refine st_nil ?_
   refine any_2 0 2 _ _ (by decide +kernel) rfl rfl ?_ ?_
   ·refine zg1 ?_
    refine st_nil ?_
    refine any_1 2 _ (by decide +kernel) rfl ?_
    refine st_callMp 0 rfl rfl rfl (dice_pure l _) (.cons .ptr (.cons (.imm (.pure rfl)) .nil)) .ptr (c_Next l (d3K l k) 3 (by omega) (by omega) (by omega) (by omega)) rfl (dice_pure l _) rfl ?_
    refine st_nil ?_
    refine any_1 3 _ (by decide +kernel) rfl ?_
    refine st_pure rfl (.bin rfl rfl (rem64 (by decide))) ?_
    refine st_nil ?_
    refine any_1 4 _ (by decide +kernel) rfl ?_
    refine st_pure rfl (.bin rfl rfl (add64 (by omega) (by omega))) ?_
    refine st_nil ?_
    refine any_1 5 _ (by decide +kernel) rfl ?_
    refine cp am1 (c_FInt (1+(nxV l (d3K l k) 3).tmod 3) (by omega) (by omega)) ?_
    refine st_nil ?_
    refine any_1 6 _ (by decide +kernel) rfl ?_
    refine s0bd (bdPo rfl rfl) ?_
    refine st_nil ?_
    refine any_1 7 _ (by decide +kernel) rfl ?_
    refine zg1 ?_
    refine st_nil ?_
    refine any_0 (by decide +kernel) ?_
    refine zg2 ?_
    exact retMC rfl rfl cs (at_all cs rfl) T100 (.pure pu) rfl rfl (dice_pure l _)
   ·refine st_callMp 0 rfl rfl rfl (dice_pure l _) (.cons .ptr (.cons (.imm (.pure rfl)) .nil)) .ptr (c_Next l (d3K l k) 3 (by omega) (by omega) (by omega) (by omega)) rfl (dice_pure l _) rfl ?_
    refine st_nil ?_
    refine any_2 0 3 _ _ (by decide +kernel) rfl rfl ?_ ?_
    ·refine zg1 ?_
     refine st_nil ?_
     refine any_1 3 _ (by decide +kernel) rfl ?_
     refine st_pure rfl (.bin rfl rfl (rem64 (by decide))) ?_
     refine st_nil ?_
     refine any_1 4 _ (by decide +kernel) rfl ?_
     refine st_pure rfl (.bin rfl rfl (add64 (by omega) (by omega))) ?_
     refine st_nil ?_
     refine any_1 5 _ (by decide +kernel) rfl ?_
     refine cp am1 (c_FInt (1+(nxV l (d3K l k) 3).tmod 3) (by omega) (by omega)) ?_
     refine st_nil ?_
     refine any_1 6 _ (by decide +kernel) rfl ?_
     refine s0bd (bdPo rfl rfl) ?_
     refine st_nil ?_
     refine any_1 7 _ (by decide +kernel) rfl ?_
     refine zg1 ?_
     refine st_nil ?_
     refine any_0 (by decide +kernel) ?_
     refine zg2 ?_
     exact retMC rfl rfl cs (at_all cs rfl) T100 (.pure pu) rfl rfl (dice_pure l _)
    ·refine st_pure rfl (.bin rfl rfl (rem64 (by decide))) ?_
     refine st_nil ?_
     refine any_2 0 4 _ _ (by decide +kernel) rfl rfl ?_ ?_
     ·refine zg1 ?_
      refine st_nil ?_
      refine any_1 4 _ (by decide +kernel) rfl ?_
      refine st_pure rfl (.bin rfl rfl (add64 (by omega) (by omega))) ?_
      refine st_nil ?_
      refine any_1 5 _ (by decide +kernel) rfl ?_
      refine cp am1 (c_FInt (1+(nxV l (d3K l k) 3).tmod 3) (by omega) (by omega)) ?_
      refine st_nil ?_
      refine any_1 6 _ (by decide +kernel) rfl ?_
      refine s0bd (bdPo rfl rfl) ?_
      refine st_nil ?_
      refine any_1 7 _ (by decide +kernel) rfl ?_
      refine zg1 ?_
      refine st_nil ?_
      refine any_0 (by decide +kernel) ?_
      refine zg2 ?_
      exact retMC rfl rfl cs (at_all cs rfl) T100 (.pure pu) rfl rfl (dice_pure l _)
     ·refine st_pure rfl (.bin rfl rfl (add64 (by omega) (by omega))) ?_
      refine st_nil ?_
      refine any_2 0 5 _ _ (by decide +kernel) rfl rfl ?_ ?_
      ·refine zg1 ?_
       refine st_nil ?_
       refine any_1 5 _ (by decide +kernel) rfl ?_
       refine cp am1 (c_FInt (1+(nxV l (d3K l k) 3).tmod 3) (by omega) (by omega)) ?_
       refine st_nil ?_
       refine any_1 6 _ (by decide +kernel) rfl ?_
       refine s0bd (bdPo rfl rfl) ?_
       refine st_nil ?_
       refine any_1 7 _ (by decide +kernel) rfl ?_
       refine zg1 ?_
       refine st_nil ?_
       refine any_0 (by decide +kernel) ?_
       refine zg2 ?_
       exact retMC rfl rfl cs (at_all cs rfl) T100 (.pure pu) rfl rfl (dice_pure l _)
      ·refine cp am1 (c_FInt (1+(nxV l (d3K l k) 3).tmod 3) (by omega) (by omega)) ?_
       refine st_nil ?_
       refine any_1 0 _ (by decide +kernel) rfl ?_
       refine zg1 ?_
       refine st_nil ?_
       refine any_1 6 _ (by decide +kernel) rfl ?_
       refine s0bd (bdPo rfl rfl) ?_
       refine st_nil ?_
       refine any_1 7 _ (by decide +kernel) rfl ?_
       refine zg1 ?_
       refine st_nil ?_
       refine any_0 (by decide +kernel) ?_
       refine zg2 ?_
       exact retMC rfl rfl cs (at_all cs rfl) T100 (.pure pu) rfl rfl (dice_pure l _)
namespace H_c_DKnots0
theorem zSm {p q:Prop} (k:q) (e:p=q:=by simp only [e1,e2,e3,e4,p1,p2,p3,q1,q2,q3,l1,t0,t1,r1,r2,r3,r4,Nat.zero_add,Nat.reduceMul,Nat.reduceAdd,b1,b2,b3,b4,b5,b6,i1,i2,i3,i4,i5,i6,Nat.reduceBEq,l1,etkA,etkB,ers,ers2,dfq,List.replicate_zero,Nat.add_zero,take_map_len,map_snoc,len_snoc,List.length_cons,List.length_nil,List.nil_append,List.length_append,List.length_replicate,List.set_cons_zero,List.set_cons_succ,Nat.reduceEqDiff,reduceIte,if_true,if_false,ptL_kill,poL_kill,kills_map poE,kills_map ratE,ratL_kill,spL_kill,LV.kill,kills,dice_kill];exact rfl):p:=e.mpr k
end H_c_DKnots0
open H_c_DKnots0 in
theorem c_DKnots0 (l:List Int) (k:Nat) (hl:l.length≤500) (d:Nat) (hd:d≤6) (hk:k≤500):CallOKM Tryz.prog 101 ⟨2,[diceL l k],true⟩ [.eptr 0 2 0 0,nI64 d,iL 0] (.list 3 ((kn0 d (dtV l k)).map ratL)) ⟨2,[diceL l (nxK l (nxK l k))],true⟩:=by
 have k1:=nxK_le (l:=l) hl hk
 have hb:=nxV_lt (l:=l) (k:=k) (n:=4) (by decide)
 have hn1:=nxV1 l (nxK l k)
 obtain⟨ht1,ht2⟩:=dt_rl l k
 have h1r:rl 1=1:=rfl
 refine fnM Tryz.func101 ?_
 have etkA:True:=trivial
 have etkB:True:=trivial
 have ers:True:=trivial
 have ers2:True:=trivial
 refine zg8 ?_
 refine st_callMp 0 rfl rfl rfl (dice_pure l _) (.cons .ptr (.cons (.imm (.pure rfl)) .nil)) .ptr (c_Next l k 4 (by omega) (by omega) (by omega) (by omega)) rfl (dice_pure l _) rfl ?_
 refine st_pure rfl (.bin rfl rfl (sub64 (by omega) (by omega))) ?_
 refine cp am1 (c_FInt (nxV l k 4-2) (by omega) (by omega)) ?_
 refine zg16 ?_
 refine wl_weak (Weak.own (t:=8) 24 3 rfl rfl) ?_
 refine lp1 (fun(i:Nat) L=>(((((((St.mk L.slot (hp [(0,⟨2,[diceL l (nxK l k)],true⟩),(7,⟨3,[ratL (dtV l k)],true⟩),(24,⟨3,(List.replicate i (dtV l k)).map ratL,true⟩)])).put (some 0) (.eptr 0 2 0 0)).put (some 2) (iL 0)).put (some 1) (nI64 d)).put (some 7) (.eptr 7 3 0 0)).put (some 8) (.ref 24 3 0 i)).put (some 9) (nI64 i))) (fun i=>i≤d+1) (fun i=>d+1-i) 0 (Nat.zero_le _) ?_
 rintro i L1 hi
 refine zg8 ?_
 refine wl_if rfl (fun h18r h18=>?_) (fun h18r h18=>?_)
 ·have hi2:i≤d:=by omega
  have ers:=rep_snoc i (dtV l k)
  have etkA:((List.replicate i (dtV l k)).map ratL).take i=(List.replicate i (dtV l k)).map ratL:=List.take_of_length_le (by simp)
  refine zg8 ?_
  refine st_store rfl (.appX (d:=24) (news:=[ratL ((dtV l k))]) rfl rfl rfl rfl (by simp [knL_len]) (.inl rfl) (by decide) Tryz.underlying33 Tryz.underlying33 Z29a T29 rfl B29 (.inl ⟨23,0,_,rfl,by decide,rfl,rfl,by simp,rfl,by simp [pures,ratE.pure]⟩) (by simp;omega) (by simp;omega) (by decide)) ?_
  refine zg4 ?_
  refine wl_regW (Weak.kill _ 23) ?_
  refine zg1 ?_
  refine st_pure rfl (.bin rfl rfl (add1N (by omega))) ?_
  refine zg3 ?_
  exact nx1 (i+1) (by omega)
 ·obtain rfl:i=d+1:=by omega
  refine zg10 ?_
  refine st_pure rfl (.bin rfl rfl (add64 (by omega) (by omega))) ?_
  refine st_callMp 0 rfl rfl rfl (dice_pure l _) (.cons .ptr (.cons (.imm (.pure rfl)) .nil)) .ptr (c_Next l (nxK l k) 1 (by omega) (by omega) (by omega) (by omega)) rfl (dice_pure l _) rfl ?_
  refine zg4 ?_
  refine wl_unroll ?_
  refine zg7 ?_
  refine wl_condY (b:=_) rfl (decide_eq_false (by omega)) ?_
  refine zg6 ?_
  refine wl_regD 3 (by decide +kernel) ?_
  refine zg1 ?_
  refine cp am1 (c_FInt 1 (by decide) (by decide)) ?_
  refine cp am2 (c_FRAdd (dtV l k) 1 (by omega)) ?_
  refine zg10 ?_
  refine lp1 (fun(i:Nat) L=>(((((St.mk L.slot (hp [(0,⟨2,[diceL l (nxK l (nxK l k))],true⟩),(7,⟨3,[ratL ((dtV l k)+1)],true⟩),(24,⟨3,(knL d (dtV l k) i).map ratL,true⟩)])).put (some 1) (nI64 d)).put (some 7) (.eptr 7 3 0 0)).put (some 8) (.ref 24 3 0 (d+1+i))).put (some 11) (nI64 i))) (fun i=>i≤d+1) (fun i=>d+1-i) 0 (Nat.zero_le _) ?_
  rintro i L3 hi
  refine zg8 ?_
  refine wl_if rfl (fun h72r h72=>?_) (fun h72r h72=>?_)
  ·have hi2:i≤d:=by omega
   have ers2:knL d (dtV l k) i++[(dtV l k)+1]=knL d (dtV l k) (i+1):=rfl
   have hkL:=knL_len d (dtV l k) i
   have etkB:((knL d (dtV l k) i).map ratL).take (d+1+i)=(knL d (dtV l k) i).map ratL:=List.take_of_length_le (by simp;omega)
   refine zg8 ?_
   refine st_store rfl (.appX (d:=24) (news:=[ratL ((dtV l k)+1)]) rfl rfl rfl rfl (by simp [knL_len]) (.inl rfl) (by decide) Tryz.underlying33 Tryz.underlying33 Z29a T29 rfl B29 (.inl ⟨77,0,_,rfl,by decide,rfl,rfl,by simp,rfl,by simp [pures,ratE.pure]⟩) (by simp;omega) (by simp;omega) (by decide)) ?_
   refine zg4 ?_
   refine wl_regW (Weak.kill _ 77) ?_
   refine zg1 ?_
   refine st_pure rfl (.bin rfl rfl (add1N (by omega))) ?_
   refine zg3 ?_
   exact nx1 (i+1) (by omega)
  ·obtain rfl:i=d+1:=by omega
   refine zg12 ?_
   rw [←knL_end]
   exact retMf [24] rfl rfl (imm_refm ratE rfl rfl (knL_len _ _ _).symm) rfl rfl (dice_pure l _)
namespace H_c_DCurve
theorem zSm {p q:Prop} (k:q) (e:p=q:=by simp only [e1,e2,e3,e4,p1,p2,p3,q1,q2,q3,l1,t0,t1,r1,r2,r3,r4,Nat.zero_add,Nat.reduceMul,Nat.reduceAdd,b1,b2,b3,b4,b5,b6,i1,i2,i3,i4,i5,i6,Nat.reduceBEq,l1,frz_nil,kn0_len,take_map_len,map_snoc,len_snoc,List.length_cons,List.length_nil,List.length_map,List.set_cons_zero,List.set_cons_succ,Nat.reduceEqDiff,reduceIte,if_true,if_false,ptL_kill,poL_kill,kills_map poE,kills_map ratE,ratL_kill,spL_kill,LV.kill,kills,dice_kill];exact rfl):p:=e.mpr k
end H_c_DCurve
open H_c_DCurve in
theorem c_DCurve (l:List Int) (k:Nat) (hl:l.length≤500) (n:Nat) (hn:0<n) (hn6:n≤6) (hk:k≤500):CallOKM Tryz.prog 18 ⟨2,[diceL l k],true⟩ [.eptr 0 2 0 0,nI64 n,iL 0,bL false] (.agg [nI64 (cD l k n),.list 3 ((kn0 (cD l k n) (cT l k)).map ratL),.list 12 ((cP l k n).map poL)]) ⟨2,[diceL l (cK l k n)],true⟩:=by
 have k1:=nxK_le (l:=l) hl hk
 have k2:=nxK_le (l:=l) hl k1
 have k3:=nxK_le (l:=l) hl k2
 obtain⟨hd1,hd2,hd3⟩:=cD_in l k hn
 have hb:=nxV_lt (l:=l) (k:=k) (n:=(n:Int)) (by omega)
 have gD:1+nxV l k (n:Int)=(((cD l k n):Nat):Int):=hd3.symm
 have hA:binI .add .i64 1 (nxV l k (n:Int))=some (.int .i64 (((cD l k n):Nat):Int)):=by rw [←gD];exact add64 (by omega) (by omega)
 have hkl:=kn0_len (cD l k n) (cT l k)
 have hkp:=pure_lst ratE 3 (kn0 (cD l k n) (cT l k))
 refine fnM Tryz.func18 ?_
 refine zg9 ?_
 refine st_callMp 0 rfl rfl rfl (dice_pure l _) (.cons .ptr (.cons (.imm (.pure rfl)) .nil)) .ptr (c_Next l k n (by omega) (by omega) (by omega) (by omega)) rfl (dice_pure l _) rfl ?_
 refine st_pure rfl (.bin rfl rfl (hA)) ?_
 refine zg11 ?_
 refine st_callMp 0 rfl rfl rfl (dice_pure l _) (.cons .ptr (.cons (.imm (.pure rfl)) (.cons (.imm (.pure rfl)) .nil))) .ptr (c_DKnots0 l (nxK l k) (by omega) (cD l k n) (by omega) (by omega)) rfl (dice_pure l _) hkp ?_
 refine zg11 ?_
 refine wl_weak ((Weak.cell 9 rfl (fun Z μ w cs h=>rep_net 39 12 _ _ Z μ w cs h)).trans (Weak.newB _ 39 12 rfl)) ?_
 refine lp3 (fun(c j:Nat) (o:List PoR) L=>((((((St.mk L.slot (hp [(0,⟨2,[diceL l j],true⟩),(8,⟨3,[.agg [.v (.int .i64 0),.v (.slice none 0 0),.v (.slice none 0 0)]],true⟩),(9,⟨3,[.agg [nI64 (cD l k n),.list 3 ((kn0 (cD l k n) (cT l k)).map ratL),.ref 39 12 0 o.length]],true⟩),(39,⟨12,o.map poL,true⟩)])).put (some 0) (.eptr 0 2 0 0)).put (some 3) (bL false)).put (some 8) (.eptr 8 3 0 0)).put (some 9) (.eptr 9 3 0 0)).put (some 10) (nI64 o.length))) (fun c j o=>j≤500∧o.length+c=(cD l k n)+1∧o++dqV l j c=cP l k n∧dqK l j c=cK l k n) (fun c j o=>c) ((cD l k n)+1) (nxK l (nxK l (nxK l k))) ([]) ⟨k3,by simp,rfl,rfl⟩ ?_
 rintro c j o L1 ⟨hj,ho,hV,hK⟩
 refine zg9 ?_
 refine st_pure rfl (.bin rfl rfl (sub64 (by omega) (by omega))) ?_
 refine st_pure rfl (.bin rfl rfl (sub64 (by omega) (by omega))) ?_
 refine zg3 ?_
 refine wl_if rfl (fun h30r h30=>?_) (fun h30r h30=>?_)
 ·obtain⟨e,rfl⟩:∃ e,c=e+1:=⟨c-1,by omega⟩
  refine zg4 ?_
  refine wl_cut (fun L=>∃  (L1:St),(True)∧L=((((((St.mk L1.slot (hp [(0,⟨2,[diceL l (dpK l j)],true⟩),(8,⟨3,[.agg [.v (.int .i64 0),.v (.slice none 0 0),.v (.slice none 0 0)]],true⟩),(9,⟨3,[.agg [nI64 (cD l k n),.list 3 ((kn0 (cD l k n) (cT l k)).map ratL),.ref 39 12 0 (o.length+1)]],true⟩),(38,⟨12,[dpV l j].map poL,true⟩),(39,⟨12,(o++[dpV l j]).map poL,true⟩)])).put (some 0) (.eptr 0 2 0 0)).put (some 3) (bL false)).put (some 8) (.eptr 8 3 0 0)).put (some 9) (.eptr 9 3 0 0)).put (some 10) (nI64 o.length))) ?_ ?_
  ·refine wl_regA ?_
   refine any_3 0 2 3 _ _ _ (by decide +kernel) rfl rfl rfl ?_ ?_ ?_
   ·refine zg1 ?_
    refine st_nil ?_
    refine any_3 1 2 3 _ _ _ (by decide +kernel) rfl rfl rfl ?_ ?_ ?_
    ·refine zg1 ?_
     refine st_nil ?_
     refine any_2 2 3 _ _ (by decide +kernel) rfl rfl ?_ ?_
     ·refine zg1 ?_
      refine st_nil ?_
      refine any_1 3 _ (by decide +kernel) rfl ?_
      refine zg1 ?_
      refine st_nil ?_
      refine any_1 4 _ (by decide +kernel) rfl ?_
      refine st_callMp 0 rfl rfl rfl (dice_pure l _) (.cons .ptr (.cons (.imm (.pure rfl)) .nil)) .ptr (c_Dpole l j (by omega) (by omega)) rfl (dice_pure l _) (poE.pure _) ?_
      refine st_nil ?_
      refine any_1 5 _ (by decide +kernel) rfl ?_
      refine zg1 ?_
      refine st_nil ?_
      refine any_1 6 _ (by decide +kernel) rfl ?_
      refine st_store rfl (.appX (d:=39) (news:=[poL (dpV l j)]) rfl rfl rfl rfl (by simp) (.inl rfl) (by decide) Tryz.underlying34 Tryz.underlying34 Z100 T100 cs B100 (.inl ⟨38,0,_,rfl,by decide,rfl,rfl,by simp,rfl,by simp [pures,poE.pure]⟩) (by simp;omega) (by simp;omega) (by decide)) ?_
      refine st_nil ?_
      refine any_1 7 _ (by decide +kernel) rfl ?_
      refine zg1 ?_
      refine st_nil ?_
      refine any_1 8 _ (by decide +kernel) rfl ?_
      refine zg1 ?_
      refine st_nil ?_
      refine any_0 (by decide +kernel) ?_
      refine zg1 ?_
      exact⟨_,trivial,((put_id' (put_id' (put_id' (put_id' (put_id' (mk_id' cl) cl) cl) cl) cl) cl)).symm⟩
     ·refine zg1 ?_
      refine st_nil ?_
      refine any_1 2 _ (by decide +kernel) rfl ?_
      refine zg1 ?_
      refine st_nil ?_
      refine any_1 4 _ (by decide +kernel) rfl ?_
      refine st_callMp 0 rfl rfl rfl (dice_pure l _) (.cons .ptr (.cons (.imm (.pure rfl)) .nil)) .ptr (c_Dpole l j (by omega) (by omega)) rfl (dice_pure l _) (poE.pure _) ?_
      refine st_nil ?_
      refine any_1 5 _ (by decide +kernel) rfl ?_
      refine zg1 ?_
      refine st_nil ?_
      refine any_1 6 _ (by decide +kernel) rfl ?_
      refine st_store rfl (.appX (d:=39) (news:=[poL (dpV l j)]) rfl rfl rfl rfl (by simp) (.inl rfl) (by decide) Tryz.underlying34 Tryz.underlying34 Z100 T100 cs B100 (.inl ⟨38,0,_,rfl,by decide,rfl,rfl,by simp,rfl,by simp [pures,poE.pure]⟩) (by simp;omega) (by simp;omega) (by decide)) ?_
      refine st_nil ?_
      refine any_1 7 _ (by decide +kernel) rfl ?_
      refine zg1 ?_
      refine st_nil ?_
      refine any_1 8 _ (by decide +kernel) rfl ?_
      refine zg1 ?_
      refine st_nil ?_
      refine any_0 (by decide +kernel) ?_
      refine zg1 ?_
      exact⟨_,trivial,((put_id' (put_id' (put_id' (put_id' (put_id' (mk_id' cl) cl) cl) cl) cl) cl)).symm⟩
    ·refine zg1 ?_
     refine st_nil ?_
     refine any_2 1 3 _ _ (by decide +kernel) rfl rfl ?_ ?_
     ·refine zg1 ?_
      refine st_nil ?_
      refine any_1 3 _ (by decide +kernel) rfl ?_
      refine zg1 ?_
      refine st_nil ?_
      refine any_1 4 _ (by decide +kernel) rfl ?_
      refine st_callMp 0 rfl rfl rfl (dice_pure l _) (.cons .ptr (.cons (.imm (.pure rfl)) .nil)) .ptr (c_Dpole l j (by omega) (by omega)) rfl (dice_pure l _) (poE.pure _) ?_
      refine st_nil ?_
      refine any_1 5 _ (by decide +kernel) rfl ?_
      refine zg1 ?_
      refine st_nil ?_
      refine any_1 6 _ (by decide +kernel) rfl ?_
      refine st_store rfl (.appX (d:=39) (news:=[poL (dpV l j)]) rfl rfl rfl rfl (by simp) (.inl rfl) (by decide) Tryz.underlying34 Tryz.underlying34 Z100 T100 cs B100 (.inl ⟨38,0,_,rfl,by decide,rfl,rfl,by simp,rfl,by simp [pures,poE.pure]⟩) (by simp;omega) (by simp;omega) (by decide)) ?_
      refine st_nil ?_
      refine any_1 7 _ (by decide +kernel) rfl ?_
      refine zg1 ?_
      refine st_nil ?_
      refine any_1 8 _ (by decide +kernel) rfl ?_
      refine zg1 ?_
      refine st_nil ?_
      refine any_0 (by decide +kernel) ?_
      refine zg1 ?_
      exact⟨_,trivial,((put_id' (put_id' (put_id' (put_id' (put_id' (mk_id' cl) cl) cl) cl) cl) cl)).symm⟩
     ·refine zg1 ?_
      refine st_nil ?_
      refine any_2 1 4 _ _ (by decide +kernel) rfl rfl ?_ ?_
      ·refine zg1 ?_
       refine st_nil ?_
       refine any_1 4 _ (by decide +kernel) rfl ?_
       refine st_callMp 0 rfl rfl rfl (dice_pure l _) (.cons .ptr (.cons (.imm (.pure rfl)) .nil)) .ptr (c_Dpole l j (by omega) (by omega)) rfl (dice_pure l _) (poE.pure _) ?_
       refine st_nil ?_
       refine any_1 5 _ (by decide +kernel) rfl ?_
       refine zg1 ?_
       refine st_nil ?_
       refine any_1 6 _ (by decide +kernel) rfl ?_
       refine st_store rfl (.appX (d:=39) (news:=[poL (dpV l j)]) rfl rfl rfl rfl (by simp) (.inl rfl) (by decide) Tryz.underlying34 Tryz.underlying34 Z100 T100 cs B100 (.inl ⟨38,0,_,rfl,by decide,rfl,rfl,by simp,rfl,by simp [pures,poE.pure]⟩) (by simp;omega) (by simp;omega) (by decide)) ?_
       refine st_nil ?_
       refine any_1 7 _ (by decide +kernel) rfl ?_
       refine zg1 ?_
       refine st_nil ?_
       refine any_1 8 _ (by decide +kernel) rfl ?_
       refine zg1 ?_
       refine st_nil ?_
       refine any_0 (by decide +kernel) ?_
       refine zg1 ?_
       exact⟨_,trivial,((put_id' (put_id' (put_id' (put_id' (put_id' (mk_id' cl) cl) cl) cl) cl) cl)).symm⟩
      ·refine st_callMp 0 rfl rfl rfl (dice_pure l _) (.cons .ptr (.cons (.imm (.pure rfl)) .nil)) .ptr (c_Dpole l j (by omega) (by omega)) rfl (dice_pure l _) (poE.pure _) ?_
       refine st_nil ?_
       refine any_2 1 5 _ _ (by decide +kernel) rfl rfl ?_ ?_
       ·refine zg1 ?_
        refine st_nil ?_
        refine any_1 5 _ (by decide +kernel) rfl ?_
        refine zg1 ?_
        refine st_nil ?_
        refine any_1 6 _ (by decide +kernel) rfl ?_
        refine st_store rfl (.appX (d:=39) (news:=[poL (dpV l j)]) rfl rfl rfl rfl (by simp) (.inl rfl) (by decide) Tryz.underlying34 Tryz.underlying34 Z100 T100 cs B100 (.inl ⟨38,0,_,rfl,by decide,rfl,rfl,by simp,rfl,by simp [pures,poE.pure]⟩) (by simp;omega) (by simp;omega) (by decide)) ?_
        refine st_nil ?_
        refine any_1 7 _ (by decide +kernel) rfl ?_
        refine zg1 ?_
        refine st_nil ?_
        refine any_1 8 _ (by decide +kernel) rfl ?_
        refine zg1 ?_
        refine st_nil ?_
        refine any_0 (by decide +kernel) ?_
        refine zg1 ?_
        exact⟨_,trivial,((put_id' (put_id' (put_id' (put_id' (put_id' (mk_id' cl) cl) cl) cl) cl) cl)).symm⟩
       ·refine zg1 ?_
        refine st_nil ?_
        refine any_1 1 _ (by decide +kernel) rfl ?_
        refine zg1 ?_
        refine st_nil ?_
        refine any_1 6 _ (by decide +kernel) rfl ?_
        refine st_store rfl (.appX (d:=39) (news:=[poL (dpV l j)]) rfl rfl rfl rfl (by simp) (.inl rfl) (by decide) Tryz.underlying34 Tryz.underlying34 Z100 T100 cs B100 (.inl ⟨38,0,_,rfl,by decide,rfl,rfl,by simp,rfl,by simp [pures,poE.pure]⟩) (by simp;omega) (by simp;omega) (by decide)) ?_
        refine st_nil ?_
        refine any_1 7 _ (by decide +kernel) rfl ?_
        refine zg1 ?_
        refine st_nil ?_
        refine any_1 8 _ (by decide +kernel) rfl ?_
        refine zg1 ?_
        refine st_nil ?_
        refine any_0 (by decide +kernel) ?_
        refine zg1 ?_
        exact⟨_,trivial,((put_id' (put_id' (put_id' (put_id' (put_id' (mk_id' cl) cl) cl) cl) cl) cl)).symm⟩
    ·refine zg1 ?_
     refine st_nil ?_
     refine any_2 1 2 _ _ (by decide +kernel) rfl rfl ?_ ?_
     ·refine zg1 ?_
      refine st_nil ?_
      refine any_1 2 _ (by decide +kernel) rfl ?_
      refine zg1 ?_
      refine st_nil ?_
      refine any_1 4 _ (by decide +kernel) rfl ?_
      refine st_callMp 0 rfl rfl rfl (dice_pure l _) (.cons .ptr (.cons (.imm (.pure rfl)) .nil)) .ptr (c_Dpole l j (by omega) (by omega)) rfl (dice_pure l _) (poE.pure _) ?_
      refine st_nil ?_
      refine any_1 5 _ (by decide +kernel) rfl ?_
      refine zg1 ?_
      refine st_nil ?_
      refine any_1 6 _ (by decide +kernel) rfl ?_
      refine st_store rfl (.appX (d:=39) (news:=[poL (dpV l j)]) rfl rfl rfl rfl (by simp) (.inl rfl) (by decide) Tryz.underlying34 Tryz.underlying34 Z100 T100 cs B100 (.inl ⟨38,0,_,rfl,by decide,rfl,rfl,by simp,rfl,by simp [pures,poE.pure]⟩) (by simp;omega) (by simp;omega) (by decide)) ?_
      refine st_nil ?_
      refine any_1 7 _ (by decide +kernel) rfl ?_
      refine zg1 ?_
      refine st_nil ?_
      refine any_1 8 _ (by decide +kernel) rfl ?_
      refine zg1 ?_
      refine st_nil ?_
      refine any_0 (by decide +kernel) ?_
      refine zg1 ?_
      exact⟨_,trivial,((put_id' (put_id' (put_id' (put_id' (put_id' (mk_id' cl) cl) cl) cl) cl) cl)).symm⟩
     ·refine zg1 ?_
      refine st_nil ?_
      refine any_2 1 4 _ _ (by decide +kernel) rfl rfl ?_ ?_
      ·refine zg1 ?_
       refine st_nil ?_
       refine any_1 4 _ (by decide +kernel) rfl ?_
       refine st_callMp 0 rfl rfl rfl (dice_pure l _) (.cons .ptr (.cons (.imm (.pure rfl)) .nil)) .ptr (c_Dpole l j (by omega) (by omega)) rfl (dice_pure l _) (poE.pure _) ?_
       refine st_nil ?_
       refine any_1 5 _ (by decide +kernel) rfl ?_
       refine zg1 ?_
       refine st_nil ?_
       refine any_1 6 _ (by decide +kernel) rfl ?_
       refine st_store rfl (.appX (d:=39) (news:=[poL (dpV l j)]) rfl rfl rfl rfl (by simp) (.inl rfl) (by decide) Tryz.underlying34 Tryz.underlying34 Z100 T100 cs B100 (.inl ⟨38,0,_,rfl,by decide,rfl,rfl,by simp,rfl,by simp [pures,poE.pure]⟩) (by simp;omega) (by simp;omega) (by decide)) ?_
       refine st_nil ?_
       refine any_1 7 _ (by decide +kernel) rfl ?_
       refine zg1 ?_
       refine st_nil ?_
       refine any_1 8 _ (by decide +kernel) rfl ?_
       refine zg1 ?_
       refine st_nil ?_
       refine any_0 (by decide +kernel) ?_
       refine zg1 ?_
       exact⟨_,trivial,((put_id' (put_id' (put_id' (put_id' (put_id' (mk_id' cl) cl) cl) cl) cl) cl)).symm⟩
      ·refine st_callMp 0 rfl rfl rfl (dice_pure l _) (.cons .ptr (.cons (.imm (.pure rfl)) .nil)) .ptr (c_Dpole l j (by omega) (by omega)) rfl (dice_pure l _) (poE.pure _) ?_
       refine st_nil ?_
       refine any_2 1 5 _ _ (by decide +kernel) rfl rfl ?_ ?_
       ·refine zg1 ?_
        refine st_nil ?_
        refine any_1 5 _ (by decide +kernel) rfl ?_
        refine zg1 ?_
        refine st_nil ?_
        refine any_1 6 _ (by decide +kernel) rfl ?_
        refine st_store rfl (.appX (d:=39) (news:=[poL (dpV l j)]) rfl rfl rfl rfl (by simp) (.inl rfl) (by decide) Tryz.underlying34 Tryz.underlying34 Z100 T100 cs B100 (.inl ⟨38,0,_,rfl,by decide,rfl,rfl,by simp,rfl,by simp [pures,poE.pure]⟩) (by simp;omega) (by simp;omega) (by decide)) ?_
        refine st_nil ?_
        refine any_1 7 _ (by decide +kernel) rfl ?_
        refine zg1 ?_
        refine st_nil ?_
        refine any_1 8 _ (by decide +kernel) rfl ?_
        refine zg1 ?_
        refine st_nil ?_
        refine any_0 (by decide +kernel) ?_
        refine zg1 ?_
        exact⟨_,trivial,((put_id' (put_id' (put_id' (put_id' (put_id' (mk_id' cl) cl) cl) cl) cl) cl)).symm⟩
       ·refine zg1 ?_
        refine st_nil ?_
        refine any_1 1 _ (by decide +kernel) rfl ?_
        refine zg1 ?_
        refine st_nil ?_
        refine any_1 6 _ (by decide +kernel) rfl ?_
        refine st_store rfl (.appX (d:=39) (news:=[poL (dpV l j)]) rfl rfl rfl rfl (by simp) (.inl rfl) (by decide) Tryz.underlying34 Tryz.underlying34 Z100 T100 cs B100 (.inl ⟨38,0,_,rfl,by decide,rfl,rfl,by simp,rfl,by simp [pures,poE.pure]⟩) (by simp;omega) (by simp;omega) (by decide)) ?_
        refine st_nil ?_
        refine any_1 7 _ (by decide +kernel) rfl ?_
        refine zg1 ?_
        refine st_nil ?_
        refine any_1 8 _ (by decide +kernel) rfl ?_
        refine zg1 ?_
        refine st_nil ?_
        refine any_0 (by decide +kernel) ?_
        refine zg1 ?_
        exact⟨_,trivial,((put_id' (put_id' (put_id' (put_id' (put_id' (mk_id' cl) cl) cl) cl) cl) cl)).symm⟩
   ·refine zg1 ?_
    refine st_nil ?_
    refine any_2 0 3 _ _ (by decide +kernel) rfl rfl ?_ ?_
    ·refine zg1 ?_
     refine st_nil ?_
     refine any_2 1 3 _ _ (by decide +kernel) rfl rfl ?_ ?_
     ·refine zg1 ?_
      refine st_nil ?_
      refine any_1 3 _ (by decide +kernel) rfl ?_
      refine zg1 ?_
      refine st_nil ?_
      refine any_1 4 _ (by decide +kernel) rfl ?_
      refine st_callMp 0 rfl rfl rfl (dice_pure l _) (.cons .ptr (.cons (.imm (.pure rfl)) .nil)) .ptr (c_Dpole l j (by omega) (by omega)) rfl (dice_pure l _) (poE.pure _) ?_
      refine st_nil ?_
      refine any_1 5 _ (by decide +kernel) rfl ?_
      refine zg1 ?_
      refine st_nil ?_
      refine any_1 6 _ (by decide +kernel) rfl ?_
      refine st_store rfl (.appX (d:=39) (news:=[poL (dpV l j)]) rfl rfl rfl rfl (by simp) (.inl rfl) (by decide) Tryz.underlying34 Tryz.underlying34 Z100 T100 cs B100 (.inl ⟨38,0,_,rfl,by decide,rfl,rfl,by simp,rfl,by simp [pures,poE.pure]⟩) (by simp;omega) (by simp;omega) (by decide)) ?_
      refine st_nil ?_
      refine any_1 7 _ (by decide +kernel) rfl ?_
      refine zg1 ?_
      refine st_nil ?_
      refine any_1 8 _ (by decide +kernel) rfl ?_
      refine zg1 ?_
      refine st_nil ?_
      refine any_0 (by decide +kernel) ?_
      refine zg1 ?_
      exact⟨_,trivial,((put_id' (put_id' (put_id' (put_id' (put_id' (mk_id' cl) cl) cl) cl) cl) cl)).symm⟩
     ·refine zg1 ?_
      refine st_nil ?_
      refine any_2 1 4 _ _ (by decide +kernel) rfl rfl ?_ ?_
      ·refine zg1 ?_
       refine st_nil ?_
       refine any_1 4 _ (by decide +kernel) rfl ?_
       refine st_callMp 0 rfl rfl rfl (dice_pure l _) (.cons .ptr (.cons (.imm (.pure rfl)) .nil)) .ptr (c_Dpole l j (by omega) (by omega)) rfl (dice_pure l _) (poE.pure _) ?_
       refine st_nil ?_
       refine any_1 5 _ (by decide +kernel) rfl ?_
       refine zg1 ?_
       refine st_nil ?_
       refine any_1 6 _ (by decide +kernel) rfl ?_
       refine st_store rfl (.appX (d:=39) (news:=[poL (dpV l j)]) rfl rfl rfl rfl (by simp) (.inl rfl) (by decide) Tryz.underlying34 Tryz.underlying34 Z100 T100 cs B100 (.inl ⟨38,0,_,rfl,by decide,rfl,rfl,by simp,rfl,by simp [pures,poE.pure]⟩) (by simp;omega) (by simp;omega) (by decide)) ?_
       refine st_nil ?_
       refine any_1 7 _ (by decide +kernel) rfl ?_
       refine zg1 ?_
       refine st_nil ?_
       refine any_1 8 _ (by decide +kernel) rfl ?_
       refine zg1 ?_
       refine st_nil ?_
       refine any_0 (by decide +kernel) ?_
       refine zg1 ?_
       exact⟨_,trivial,((put_id' (put_id' (put_id' (put_id' (put_id' (mk_id' cl) cl) cl) cl) cl) cl)).symm⟩
      ·refine st_callMp 0 rfl rfl rfl (dice_pure l _) (.cons .ptr (.cons (.imm (.pure rfl)) .nil)) .ptr (c_Dpole l j (by omega) (by omega)) rfl (dice_pure l _) (poE.pure _) ?_
       refine st_nil ?_
       refine any_2 1 5 _ _ (by decide +kernel) rfl rfl ?_ ?_
       ·refine zg1 ?_
        refine st_nil ?_
        refine any_1 5 _ (by decide +kernel) rfl ?_
        refine zg1 ?_
        refine st_nil ?_
        refine any_1 6 _ (by decide +kernel) rfl ?_
        refine st_store rfl (.appX (d:=39) (news:=[poL (dpV l j)]) rfl rfl rfl rfl (by simp) (.inl rfl) (by decide) Tryz.underlying34 Tryz.underlying34 Z100 T100 cs B100 (.inl ⟨38,0,_,rfl,by decide,rfl,rfl,by simp,rfl,by simp [pures,poE.pure]⟩) (by simp;omega) (by simp;omega) (by decide)) ?_
        refine st_nil ?_
        refine any_1 7 _ (by decide +kernel) rfl ?_
        refine zg1 ?_
        refine st_nil ?_
        refine any_1 8 _ (by decide +kernel) rfl ?_
        refine zg1 ?_
        refine st_nil ?_
        refine any_0 (by decide +kernel) ?_
        refine zg1 ?_
        exact⟨_,trivial,((put_id' (put_id' (put_id' (put_id' (put_id' (mk_id' cl) cl) cl) cl) cl) cl)).symm⟩
       ·refine zg1 ?_
        refine st_nil ?_
        refine any_1 1 _ (by decide +kernel) rfl ?_
        refine zg1 ?_
        refine st_nil ?_
        refine any_1 6 _ (by decide +kernel) rfl ?_
        refine st_store rfl (.appX (d:=39) (news:=[poL (dpV l j)]) rfl rfl rfl rfl (by simp) (.inl rfl) (by decide) Tryz.underlying34 Tryz.underlying34 Z100 T100 cs B100 (.inl ⟨38,0,_,rfl,by decide,rfl,rfl,by simp,rfl,by simp [pures,poE.pure]⟩) (by simp;omega) (by simp;omega) (by decide)) ?_
        refine st_nil ?_
        refine any_1 7 _ (by decide +kernel) rfl ?_
        refine zg1 ?_
        refine st_nil ?_
        refine any_1 8 _ (by decide +kernel) rfl ?_
        refine zg1 ?_
        refine st_nil ?_
        refine any_0 (by decide +kernel) ?_
        refine zg1 ?_
        exact⟨_,trivial,((put_id' (put_id' (put_id' (put_id' (put_id' (mk_id' cl) cl) cl) cl) cl) cl)).symm⟩
    ·refine zg1 ?_
     refine st_nil ?_
     refine any_2 0 4 _ _ (by decide +kernel) rfl rfl ?_ ?_
     ·refine zg1 ?_
      refine st_nil ?_
      refine any_2 1 4 _ _ (by decide +kernel) rfl rfl ?_ ?_
      ·refine zg1 ?_
       refine st_nil ?_
       refine any_1 4 _ (by decide +kernel) rfl ?_
       refine st_callMp 0 rfl rfl rfl (dice_pure l _) (.cons .ptr (.cons (.imm (.pure rfl)) .nil)) .ptr (c_Dpole l j (by omega) (by omega)) rfl (dice_pure l _) (poE.pure _) ?_
       refine st_nil ?_
       refine any_1 5 _ (by decide +kernel) rfl ?_
       refine zg1 ?_
       refine st_nil ?_
       refine any_1 6 _ (by decide +kernel) rfl ?_
       refine st_store rfl (.appX (d:=39) (news:=[poL (dpV l j)]) rfl rfl rfl rfl (by simp) (.inl rfl) (by decide) Tryz.underlying34 Tryz.underlying34 Z100 T100 cs B100 (.inl ⟨38,0,_,rfl,by decide,rfl,rfl,by simp,rfl,by simp [pures,poE.pure]⟩) (by simp;omega) (by simp;omega) (by decide)) ?_
       refine st_nil ?_
       refine any_1 7 _ (by decide +kernel) rfl ?_
       refine zg1 ?_
       refine st_nil ?_
       refine any_1 8 _ (by decide +kernel) rfl ?_
       refine zg1 ?_
       refine st_nil ?_
       refine any_0 (by decide +kernel) ?_
       refine zg1 ?_
       exact⟨_,trivial,((put_id' (put_id' (put_id' (put_id' (put_id' (mk_id' cl) cl) cl) cl) cl) cl)).symm⟩
      ·refine st_callMp 0 rfl rfl rfl (dice_pure l _) (.cons .ptr (.cons (.imm (.pure rfl)) .nil)) .ptr (c_Dpole l j (by omega) (by omega)) rfl (dice_pure l _) (poE.pure _) ?_
       refine st_nil ?_
       refine any_2 1 5 _ _ (by decide +kernel) rfl rfl ?_ ?_
       ·refine zg1 ?_
        refine st_nil ?_
        refine any_1 5 _ (by decide +kernel) rfl ?_
        refine zg1 ?_
        refine st_nil ?_
        refine any_1 6 _ (by decide +kernel) rfl ?_
        refine st_store rfl (.appX (d:=39) (news:=[poL (dpV l j)]) rfl rfl rfl rfl (by simp) (.inl rfl) (by decide) Tryz.underlying34 Tryz.underlying34 Z100 T100 cs B100 (.inl ⟨38,0,_,rfl,by decide,rfl,rfl,by simp,rfl,by simp [pures,poE.pure]⟩) (by simp;omega) (by simp;omega) (by decide)) ?_
        refine st_nil ?_
        refine any_1 7 _ (by decide +kernel) rfl ?_
        refine zg1 ?_
        refine st_nil ?_
        refine any_1 8 _ (by decide +kernel) rfl ?_
        refine zg1 ?_
        refine st_nil ?_
        refine any_0 (by decide +kernel) ?_
        refine zg1 ?_
        exact⟨_,trivial,((put_id' (put_id' (put_id' (put_id' (put_id' (mk_id' cl) cl) cl) cl) cl) cl)).symm⟩
       ·refine zg1 ?_
        refine st_nil ?_
        refine any_1 1 _ (by decide +kernel) rfl ?_
        refine zg1 ?_
        refine st_nil ?_
        refine any_1 6 _ (by decide +kernel) rfl ?_
        refine st_store rfl (.appX (d:=39) (news:=[poL (dpV l j)]) rfl rfl rfl rfl (by simp) (.inl rfl) (by decide) Tryz.underlying34 Tryz.underlying34 Z100 T100 cs B100 (.inl ⟨38,0,_,rfl,by decide,rfl,rfl,by simp,rfl,by simp [pures,poE.pure]⟩) (by simp;omega) (by simp;omega) (by decide)) ?_
        refine st_nil ?_
        refine any_1 7 _ (by decide +kernel) rfl ?_
        refine zg1 ?_
        refine st_nil ?_
        refine any_1 8 _ (by decide +kernel) rfl ?_
        refine zg1 ?_
        refine st_nil ?_
        refine any_0 (by decide +kernel) ?_
        refine zg1 ?_
        exact⟨_,trivial,((put_id' (put_id' (put_id' (put_id' (put_id' (mk_id' cl) cl) cl) cl) cl) cl)).symm⟩
     ·refine st_callMp 0 rfl rfl rfl (dice_pure l _) (.cons .ptr (.cons (.imm (.pure rfl)) .nil)) .ptr (c_Dpole l j (by omega) (by omega)) rfl (dice_pure l _) (poE.pure _) ?_
      refine st_nil ?_
      refine any_2 0 5 _ _ (by decide +kernel) rfl rfl ?_ ?_
      ·refine zg1 ?_
       refine st_nil ?_
       refine any_2 1 5 _ _ (by decide +kernel) rfl rfl ?_ ?_
       ·refine zg1 ?_
        refine st_nil ?_
        refine any_1 5 _ (by decide +kernel) rfl ?_
        refine zg1 ?_
        refine st_nil ?_
        refine any_1 6 _ (by decide +kernel) rfl ?_
        refine st_store rfl (.appX (d:=39) (news:=[poL (dpV l j)]) rfl rfl rfl rfl (by simp) (.inl rfl) (by decide) Tryz.underlying34 Tryz.underlying34 Z100 T100 cs B100 (.inl ⟨38,0,_,rfl,by decide,rfl,rfl,by simp,rfl,by simp [pures,poE.pure]⟩) (by simp;omega) (by simp;omega) (by decide)) ?_
        refine st_nil ?_
        refine any_1 7 _ (by decide +kernel) rfl ?_
        refine zg1 ?_
        refine st_nil ?_
        refine any_1 8 _ (by decide +kernel) rfl ?_
        refine zg1 ?_
        refine st_nil ?_
        refine any_0 (by decide +kernel) ?_
        refine zg1 ?_
        exact⟨_,trivial,((put_id' (put_id' (put_id' (put_id' (put_id' (mk_id' cl) cl) cl) cl) cl) cl)).symm⟩
       ·refine zg1 ?_
        refine st_nil ?_
        refine any_1 1 _ (by decide +kernel) rfl ?_
        refine zg1 ?_
        refine st_nil ?_
        refine any_1 6 _ (by decide +kernel) rfl ?_
        refine st_store rfl (.appX (d:=39) (news:=[poL (dpV l j)]) rfl rfl rfl rfl (by simp) (.inl rfl) (by decide) Tryz.underlying34 Tryz.underlying34 Z100 T100 cs B100 (.inl ⟨38,0,_,rfl,by decide,rfl,rfl,by simp,rfl,by simp [pures,poE.pure]⟩) (by simp;omega) (by simp;omega) (by decide)) ?_
        refine st_nil ?_
        refine any_1 7 _ (by decide +kernel) rfl ?_
        refine zg1 ?_
        refine st_nil ?_
        refine any_1 8 _ (by decide +kernel) rfl ?_
        refine zg1 ?_
        refine st_nil ?_
        refine any_0 (by decide +kernel) ?_
        refine zg1 ?_
        exact⟨_,trivial,((put_id' (put_id' (put_id' (put_id' (put_id' (mk_id' cl) cl) cl) cl) cl) cl)).symm⟩
      ·refine zg1 ?_
       refine st_nil ?_
       refine any_1 0 _ (by decide +kernel) rfl ?_
       refine zg1 ?_
       refine st_nil ?_
       refine any_1 1 _ (by decide +kernel) rfl ?_
       refine zg1 ?_
       refine st_nil ?_
       refine any_1 6 _ (by decide +kernel) rfl ?_
       refine st_store rfl (.appX (d:=39) (news:=[poL (dpV l j)]) rfl rfl rfl rfl (by simp) (.inl rfl) (by decide) Tryz.underlying34 Tryz.underlying34 Z100 T100 cs B100 (.inl ⟨38,0,_,rfl,by decide,rfl,rfl,by simp,rfl,by simp [pures,poE.pure]⟩) (by simp;omega) (by simp;omega) (by decide)) ?_
       refine st_nil ?_
       refine any_1 7 _ (by decide +kernel) rfl ?_
       refine zg1 ?_
       refine st_nil ?_
       refine any_1 8 _ (by decide +kernel) rfl ?_
       refine zg1 ?_
       refine st_nil ?_
       refine any_0 (by decide +kernel) ?_
       refine zg1 ?_
       exact⟨_,trivial,((put_id' (put_id' (put_id' (put_id' (put_id' (mk_id' cl) cl) cl) cl) cl) cl)).symm⟩
   ·refine zg1 ?_
    refine st_nil ?_
    refine any_2 0 2 _ _ (by decide +kernel) rfl rfl ?_ ?_
    ·refine zg1 ?_
     refine st_nil ?_
     refine any_2 1 2 _ _ (by decide +kernel) rfl rfl ?_ ?_
     ·refine zg1 ?_
      refine st_nil ?_
      refine any_1 2 _ (by decide +kernel) rfl ?_
      refine zg1 ?_
      refine st_nil ?_
      refine any_1 4 _ (by decide +kernel) rfl ?_
      refine st_callMp 0 rfl rfl rfl (dice_pure l _) (.cons .ptr (.cons (.imm (.pure rfl)) .nil)) .ptr (c_Dpole l j (by omega) (by omega)) rfl (dice_pure l _) (poE.pure _) ?_
      refine st_nil ?_
      refine any_1 5 _ (by decide +kernel) rfl ?_
      refine zg1 ?_
      refine st_nil ?_
      refine any_1 6 _ (by decide +kernel) rfl ?_
      refine st_store rfl (.appX (d:=39) (news:=[poL (dpV l j)]) rfl rfl rfl rfl (by simp) (.inl rfl) (by decide) Tryz.underlying34 Tryz.underlying34 Z100 T100 cs B100 (.inl ⟨38,0,_,rfl,by decide,rfl,rfl,by simp,rfl,by simp [pures,poE.pure]⟩) (by simp;omega) (by simp;omega) (by decide)) ?_
      refine st_nil ?_
      refine any_1 7 _ (by decide +kernel) rfl ?_
      refine zg1 ?_
      refine st_nil ?_
      refine any_1 8 _ (by decide +kernel) rfl ?_
      refine zg1 ?_
      refine st_nil ?_
      refine any_0 (by decide +kernel) ?_
      refine zg1 ?_
      exact⟨_,trivial,((put_id' (put_id' (put_id' (put_id' (put_id' (mk_id' cl) cl) cl) cl) cl) cl)).symm⟩
     ·refine zg1 ?_
      refine st_nil ?_
      refine any_2 1 4 _ _ (by decide +kernel) rfl rfl ?_ ?_
      ·refine zg1 ?_
       refine st_nil ?_
       refine any_1 4 _ (by decide +kernel) rfl ?_
       refine st_callMp 0 rfl rfl rfl (dice_pure l _) (.cons .ptr (.cons (.imm (.pure rfl)) .nil)) .ptr (c_Dpole l j (by omega) (by omega)) rfl (dice_pure l _) (poE.pure _) ?_
       refine st_nil ?_
       refine any_1 5 _ (by decide +kernel) rfl ?_
       refine zg1 ?_
       refine st_nil ?_
       refine any_1 6 _ (by decide +kernel) rfl ?_
       refine st_store rfl (.appX (d:=39) (news:=[poL (dpV l j)]) rfl rfl rfl rfl (by simp) (.inl rfl) (by decide) Tryz.underlying34 Tryz.underlying34 Z100 T100 cs B100 (.inl ⟨38,0,_,rfl,by decide,rfl,rfl,by simp,rfl,by simp [pures,poE.pure]⟩) (by simp;omega) (by simp;omega) (by decide)) ?_
       refine st_nil ?_
       refine any_1 7 _ (by decide +kernel) rfl ?_
       refine zg1 ?_
       refine st_nil ?_
       refine any_1 8 _ (by decide +kernel) rfl ?_
       refine zg1 ?_
       refine st_nil ?_
       refine any_0 (by decide +kernel) ?_
       refine zg1 ?_
       exact⟨_,trivial,((put_id' (put_id' (put_id' (put_id' (put_id' (mk_id' cl) cl) cl) cl) cl) cl)).symm⟩
      ·refine st_callMp 0 rfl rfl rfl (dice_pure l _) (.cons .ptr (.cons (.imm (.pure rfl)) .nil)) .ptr (c_Dpole l j (by omega) (by omega)) rfl (dice_pure l _) (poE.pure _) ?_
       refine st_nil ?_
       refine any_2 1 5 _ _ (by decide +kernel) rfl rfl ?_ ?_
       ·refine zg1 ?_
        refine st_nil ?_
        refine any_1 5 _ (by decide +kernel) rfl ?_
        refine zg1 ?_
        refine st_nil ?_
        refine any_1 6 _ (by decide +kernel) rfl ?_
        refine st_store rfl (.appX (d:=39) (news:=[poL (dpV l j)]) rfl rfl rfl rfl (by simp) (.inl rfl) (by decide) Tryz.underlying34 Tryz.underlying34 Z100 T100 cs B100 (.inl ⟨38,0,_,rfl,by decide,rfl,rfl,by simp,rfl,by simp [pures,poE.pure]⟩) (by simp;omega) (by simp;omega) (by decide)) ?_
        refine st_nil ?_
        refine any_1 7 _ (by decide +kernel) rfl ?_
        refine zg1 ?_
        refine st_nil ?_
        refine any_1 8 _ (by decide +kernel) rfl ?_
        refine zg1 ?_
        refine st_nil ?_
        refine any_0 (by decide +kernel) ?_
        refine zg1 ?_
        exact⟨_,trivial,((put_id' (put_id' (put_id' (put_id' (put_id' (mk_id' cl) cl) cl) cl) cl) cl)).symm⟩
       ·refine zg1 ?_
        refine st_nil ?_
        refine any_1 1 _ (by decide +kernel) rfl ?_
        refine zg1 ?_
        refine st_nil ?_
        refine any_1 6 _ (by decide +kernel) rfl ?_
        refine st_store rfl (.appX (d:=39) (news:=[poL (dpV l j)]) rfl rfl rfl rfl (by simp) (.inl rfl) (by decide) Tryz.underlying34 Tryz.underlying34 Z100 T100 cs B100 (.inl ⟨38,0,_,rfl,by decide,rfl,rfl,by simp,rfl,by simp [pures,poE.pure]⟩) (by simp;omega) (by simp;omega) (by decide)) ?_
        refine st_nil ?_
        refine any_1 7 _ (by decide +kernel) rfl ?_
        refine zg1 ?_
        refine st_nil ?_
        refine any_1 8 _ (by decide +kernel) rfl ?_
        refine zg1 ?_
        refine st_nil ?_
        refine any_0 (by decide +kernel) ?_
        refine zg1 ?_
        exact⟨_,trivial,((put_id' (put_id' (put_id' (put_id' (put_id' (mk_id' cl) cl) cl) cl) cl) cl)).symm⟩
    ·refine zg1 ?_
     refine st_nil ?_
     refine any_2 0 4 _ _ (by decide +kernel) rfl rfl ?_ ?_
     ·refine zg1 ?_
      refine st_nil ?_
      refine any_2 1 4 _ _ (by decide +kernel) rfl rfl ?_ ?_
      ·refine zg1 ?_
       refine st_nil ?_
       refine any_1 4 _ (by decide +kernel) rfl ?_
       refine st_callMp 0 rfl rfl rfl (dice_pure l _) (.cons .ptr (.cons (.imm (.pure rfl)) .nil)) .ptr (c_Dpole l j (by omega) (by omega)) rfl (dice_pure l _) (poE.pure _) ?_
       refine st_nil ?_
       refine any_1 5 _ (by decide +kernel) rfl ?_
       refine zg1 ?_
       refine st_nil ?_
       refine any_1 6 _ (by decide +kernel) rfl ?_
       refine st_store rfl (.appX (d:=39) (news:=[poL (dpV l j)]) rfl rfl rfl rfl (by simp) (.inl rfl) (by decide) Tryz.underlying34 Tryz.underlying34 Z100 T100 cs B100 (.inl ⟨38,0,_,rfl,by decide,rfl,rfl,by simp,rfl,by simp [pures,poE.pure]⟩) (by simp;omega) (by simp;omega) (by decide)) ?_
       refine st_nil ?_
       refine any_1 7 _ (by decide +kernel) rfl ?_
       refine zg1 ?_
       refine st_nil ?_
       refine any_1 8 _ (by decide +kernel) rfl ?_
       refine zg1 ?_
       refine st_nil ?_
       refine any_0 (by decide +kernel) ?_
       refine zg1 ?_
       exact⟨_,trivial,((put_id' (put_id' (put_id' (put_id' (put_id' (mk_id' cl) cl) cl) cl) cl) cl)).symm⟩
      ·refine st_callMp 0 rfl rfl rfl (dice_pure l _) (.cons .ptr (.cons (.imm (.pure rfl)) .nil)) .ptr (c_Dpole l j (by omega) (by omega)) rfl (dice_pure l _) (poE.pure _) ?_
       refine st_nil ?_
       refine any_2 1 5 _ _ (by decide +kernel) rfl rfl ?_ ?_
       ·refine zg1 ?_
        refine st_nil ?_
        refine any_1 5 _ (by decide +kernel) rfl ?_
        refine zg1 ?_
        refine st_nil ?_
        refine any_1 6 _ (by decide +kernel) rfl ?_
        refine st_store rfl (.appX (d:=39) (news:=[poL (dpV l j)]) rfl rfl rfl rfl (by simp) (.inl rfl) (by decide) Tryz.underlying34 Tryz.underlying34 Z100 T100 cs B100 (.inl ⟨38,0,_,rfl,by decide,rfl,rfl,by simp,rfl,by simp [pures,poE.pure]⟩) (by simp;omega) (by simp;omega) (by decide)) ?_
        refine st_nil ?_
        refine any_1 7 _ (by decide +kernel) rfl ?_
        refine zg1 ?_
        refine st_nil ?_
        refine any_1 8 _ (by decide +kernel) rfl ?_
        refine zg1 ?_
        refine st_nil ?_
        refine any_0 (by decide +kernel) ?_
        refine zg1 ?_
        exact⟨_,trivial,((put_id' (put_id' (put_id' (put_id' (put_id' (mk_id' cl) cl) cl) cl) cl) cl)).symm⟩
       ·refine zg1 ?_
        refine st_nil ?_
        refine any_1 1 _ (by decide +kernel) rfl ?_
        refine zg1 ?_
        refine st_nil ?_
        refine any_1 6 _ (by decide +kernel) rfl ?_
        refine st_store rfl (.appX (d:=39) (news:=[poL (dpV l j)]) rfl rfl rfl rfl (by simp) (.inl rfl) (by decide) Tryz.underlying34 Tryz.underlying34 Z100 T100 cs B100 (.inl ⟨38,0,_,rfl,by decide,rfl,rfl,by simp,rfl,by simp [pures,poE.pure]⟩) (by simp;omega) (by simp;omega) (by decide)) ?_
        refine st_nil ?_
        refine any_1 7 _ (by decide +kernel) rfl ?_
        refine zg1 ?_
        refine st_nil ?_
        refine any_1 8 _ (by decide +kernel) rfl ?_
        refine zg1 ?_
        refine st_nil ?_
        refine any_0 (by decide +kernel) ?_
        refine zg1 ?_
        exact⟨_,trivial,((put_id' (put_id' (put_id' (put_id' (put_id' (mk_id' cl) cl) cl) cl) cl) cl)).symm⟩
     ·refine st_callMp 0 rfl rfl rfl (dice_pure l _) (.cons .ptr (.cons (.imm (.pure rfl)) .nil)) .ptr (c_Dpole l j (by omega) (by omega)) rfl (dice_pure l _) (poE.pure _) ?_
      refine st_nil ?_
      refine any_2 0 5 _ _ (by decide +kernel) rfl rfl ?_ ?_
      ·refine zg1 ?_
       refine st_nil ?_
       refine any_2 1 5 _ _ (by decide +kernel) rfl rfl ?_ ?_
       ·refine zg1 ?_
        refine st_nil ?_
        refine any_1 5 _ (by decide +kernel) rfl ?_
        refine zg1 ?_
        refine st_nil ?_
        refine any_1 6 _ (by decide +kernel) rfl ?_
        refine st_store rfl (.appX (d:=39) (news:=[poL (dpV l j)]) rfl rfl rfl rfl (by simp) (.inl rfl) (by decide) Tryz.underlying34 Tryz.underlying34 Z100 T100 cs B100 (.inl ⟨38,0,_,rfl,by decide,rfl,rfl,by simp,rfl,by simp [pures,poE.pure]⟩) (by simp;omega) (by simp;omega) (by decide)) ?_
        refine st_nil ?_
        refine any_1 7 _ (by decide +kernel) rfl ?_
        refine zg1 ?_
        refine st_nil ?_
        refine any_1 8 _ (by decide +kernel) rfl ?_
        refine zg1 ?_
        refine st_nil ?_
        refine any_0 (by decide +kernel) ?_
        refine zg1 ?_
        exact⟨_,trivial,((put_id' (put_id' (put_id' (put_id' (put_id' (mk_id' cl) cl) cl) cl) cl) cl)).symm⟩
       ·refine zg1 ?_
        refine st_nil ?_
        refine any_1 1 _ (by decide +kernel) rfl ?_
        refine zg1 ?_
        refine st_nil ?_
        refine any_1 6 _ (by decide +kernel) rfl ?_
        refine st_store rfl (.appX (d:=39) (news:=[poL (dpV l j)]) rfl rfl rfl rfl (by simp) (.inl rfl) (by decide) Tryz.underlying34 Tryz.underlying34 Z100 T100 cs B100 (.inl ⟨38,0,_,rfl,by decide,rfl,rfl,by simp,rfl,by simp [pures,poE.pure]⟩) (by simp;omega) (by simp;omega) (by decide)) ?_
        refine st_nil ?_
        refine any_1 7 _ (by decide +kernel) rfl ?_
        refine zg1 ?_
        refine st_nil ?_
        refine any_1 8 _ (by decide +kernel) rfl ?_
        refine zg1 ?_
        refine st_nil ?_
        refine any_0 (by decide +kernel) ?_
        refine zg1 ?_
        exact⟨_,trivial,((put_id' (put_id' (put_id' (put_id' (put_id' (mk_id' cl) cl) cl) cl) cl) cl)).symm⟩
      ·refine zg1 ?_
       refine st_nil ?_
       refine any_1 0 _ (by decide +kernel) rfl ?_
       refine zg1 ?_
       refine st_nil ?_
       refine any_1 1 _ (by decide +kernel) rfl ?_
       refine zg1 ?_
       refine st_nil ?_
       refine any_1 6 _ (by decide +kernel) rfl ?_
       refine st_store rfl (.appX (d:=39) (news:=[poL (dpV l j)]) rfl rfl rfl rfl (by simp) (.inl rfl) (by decide) Tryz.underlying34 Tryz.underlying34 Z100 T100 cs B100 (.inl ⟨38,0,_,rfl,by decide,rfl,rfl,by simp,rfl,by simp [pures,poE.pure]⟩) (by simp;omega) (by simp;omega) (by decide)) ?_
       refine st_nil ?_
       refine any_1 7 _ (by decide +kernel) rfl ?_
       refine zg1 ?_
       refine st_nil ?_
       refine any_1 8 _ (by decide +kernel) rfl ?_
       refine zg1 ?_
       refine st_nil ?_
       refine any_0 (by decide +kernel) ?_
       refine zg1 ?_
       exact⟨_,trivial,((put_id' (put_id' (put_id' (put_id' (put_id' (mk_id' cl) cl) cl) cl) cl) cl)).symm⟩
  ·rintro _ ⟨LR6,-,rfl⟩
   refine zg2 ?_
   refine wl_regW (Weak.kill _ 38) ?_
   refine zg1 ?_
   refine st_pure rfl (.bin rfl rfl (add1N (by omega))) ?_
   refine zg3 ?_
   exact nx3 e (dpK l j) (o++[dpV l j]) ⟨dpK_le hl hj,by simp;omega,by rw [List.append_assoc];exact hV,hK⟩
 ·obtain rfl:c=0:=by omega
  rw [dqV,List.append_nil] at hV
  rw [dqK] at hK
  refine zg12 ?_
  rw [←hV,←hK]
  exact retMCf [39] rfl rfl rfl rfl rfl T36 (.agg (.cons (.pure rfl) (.cons (.pure hkp) (.cons (imm_refm poE rfl rfl rfl) .nil)))) rfl rfl (dice_pure l _)
end Go.Proofs.YtgfbghoihhnahaaGreat
end
section
set_option linter.unusedVariables false
set_option linter.unusedSimpArgs false
set_option maxHeartbeats 8000000
set_option maxRecDepth 100000
attribute [local irreducible] Go.Lg.opsL Go.Lg.wpL Go.Lg.thenL Go.Lg.blockL
namespace Go.Proofs.YtgfbghoihhnahaaGreat
open Go.Lg
theorem gD1 {a b:List Rat} {i:Nat} (h:i<a.length):(a++b).getD i 0=a.getD i 0:=by
 rw [List.getD_eq_getElem?_getD,List.getD_eq_getElem?_getD,List.getElem?_append_left h]
theorem gD2 {a b:List Rat} {i:Nat} (h:a.length≤i):(a++b).getD i 0=b.getD (i-a.length) 0:=by
 rw [List.getD_eq_getElem?_getD,List.getD_eq_getElem?_getD,List.getElem?_append_right h]
theorem getD_rep {n i:Nat} {T:Rat} (h:i<n):(List.replicate n T).getD i 0=T:=by
 rw [List.getD_eq_getElem?_getD,List.getElem?_eq_getElem (by simpa using h)];simp
def cvN (kn:List Rat) (po:List PoR):Nat→List Rat
 | 0=>kn
 | i+1=>cvN kn po i++[(po.getD i default).p.x,(po.getD i default).p.y,(po.getD i default).p.z,(po.getD i default).w]
theorem cvN_len (kn:List Rat) (po:List PoR):∀ i,(cvN kn po i).length=kn.length+4*i
 | 0=>rfl
 | i+1=>by rw [cvN,List.length_append,cvN_len kn po i];simp;omega
theorem cvN_rl {kn:List Rat} {po:List PoR} {R:Nat} (hk:∀ x∈kn,rl x≤R) (hp:∀ q∈po,okP R q):∀ i,i≤po.length→∀ x∈cvN kn po i,rl x≤R
 | 0,_,x,hx=>hk x hx
 | i+1,hi,x,hx=>by
  rw [cvN] at hx
  rcases List.mem_append.1 hx with hx | hx
  ·exact cvN_rl hk hp i (by omega) x hx
  ·obtain⟨⟨h1,h2,h3⟩,h4,_⟩:=hp _ (getD_memP (po:=po) (j:=i) (by omega))
   simp only [List.mem_cons,List.not_mem_nil,or_false] at hx
   rcases hx with rfl | rfl | rfl | rfl<;>assumption
theorem tm_rep (a b:List Rat) (t:Rat):∀ i,i≤a.length→tmN (a++b) t i=tmN a t i
 | 0,_=>rfl
 | i+1,h=>by rw [tmN,tmN,tm_rep a b t i (by omega),gD1 (by omega)]
theorem tm_app (a b:List Rat) (t:Rat):∀ i,tmN (a++b) t (a.length+i)=tmN a t a.length+tmN b t i
 | 0=>by rw [Nat.add_zero,tm_rep _ _ _ _ (Nat.le_refl _)];rfl
 | i+1=>by
  rw [←Nat.add_assoc,tmN,tm_app a b t i,tmN,gD2 (by omega),Nat.add_sub_cancel_left];omega
theorem tm_const (n:Nat) (T t:Rat):∀ i,i≤n→tmN (List.replicate n T) t i=if T=t then i else 0
 | 0,_=>by split<;>rfl
 | i+1,h=>by
  rw [tmN,tm_const n T t i (by omega),getD_rep (by omega)]
  split<;>rfl
theorem kn0_tm (d:Nat) (T t:Rat):tmN (kn0 d T) t (kn0 d T).length=(if T=t then d+1 else 0)+(if T+1=t then d+1 else 0):=by
 have h:=tm_app (List.replicate (d+1) T) (List.replicate (d+1) (T+1)) t (d+1)
 rw [List.length_replicate] at h
 have e:(kn0 d T).length=d+1+(d+1):=by rw [kn0_len];omega
 rw [e]
 show tmN (List.replicate (d+1) T++_) t _=_
 rw [h,tm_const _ _ _ _ (Nat.le_refl _),tm_const _ _ _ _ (Nat.le_refl _)]
theorem kn0_get (d:Nat) (T:Rat) (i:Nat) (h:i<2*(d+1)):(kn0 d T).getD i 0=if i<d+1 then T else T+1:=by
 unfold kn0
 split
 ·rw [gD1 (by simp;omega),getD_rep (by omega)]
 ·rw [gD2 (by simp;omega),List.length_replicate,getD_rep (by omega)]
theorem kn0_ok {d:Nat} {T:Rat} (h1:1≤d) (h6:d≤6) (hT:rl T≤64) (hT1:rl (T+1)≤64):kOK (kn0 d T) d:=by
 have hl:=kn0_len d T
 have hne:T≠T+1:=by grind
 have e0:(kn0 d T).getD 0 0=T:=by rw [kn0_get _ _ _ (by omega),if_pos (by omega)]
 have e1:(kn0 d T).getD ((kn0 d T).length-1) 0=T+1:=by rw [hl,kn0_get _ _ _ (by omega),if_neg (by omega)]
 have hm:∀ x∈kn0 d T,x=T∨x=T+1:=fun x hx=>by
  rcases List.mem_append.1 hx with h | h
  ·exact .inl (List.mem_replicate.1 h).2
  ·exact .inr (List.mem_replicate.1 h).2
 refine⟨h1,h6,by omega,by omega,fun i hi=>?_,by rw [e0,e1];exact hne,fun t ht he=>?_,fun t ht g0 g1=>?_,fun x hx=>?_⟩
 ·rw [kn0_get _ _ _ (by omega),kn0_get _ _ _ (by omega)]
  split<;>split
  ·exact Rat.le_refl
  ·grind
  ·omega
  ·exact Rat.le_refl
 ·rw [kn0_tm]
  rcases hm t ht with rfl | rfl
  ·rw [if_pos rfl,if_neg (fun e=>hne e.symm)]
  ·rw [if_neg hne,if_pos rfl,Nat.zero_add]
 ·rw [e0] at g0;rw [e1] at g1
  rcases hm t ht with h | h
  ·exact absurd h g0
  ·exact absurd h g1
 ·rcases hm x hx with rfl | rfl<;>assumption
theorem any_ff {α:Type} (l:List α):l.any (fun _=>false)=false:=by simp
namespace H_c_numbers
theorem zSm {p q:Prop} (k:q) (e:p=q:=by simp only [e1,e2,e3,e4,p1,p2,p3,q1,q2,q3,l1,t0,t1,r1,r2,r3,r4,Nat.zero_add,Nat.reduceMul,Nat.reduceAdd,b1,b2,b3,b4,b5,b6,i1,i2,i3,i4,i5,i6,Nat.reduceBEq,ers,etk,map4,take_map_len,map_snoc,len_snoc,List.length_cons,List.length_nil,List.nil_append,List.map_nil,List.take_nil,List.append_nil,List.set_cons_zero,List.set_cons_succ,Nat.reduceEqDiff,reduceIte,if_true,if_false,ptL_kill,poL_kill,kills_map ptE,kills_map poE,kills_map ratE,ratL_kill,spL_kill,LV.kill,kills];exact rfl):p:=e.mpr k
end H_c_numbers
open H_c_numbers in
theorem c_numbers (d:Nat) (kn:List Rat) (po:List PoR) (h0:0<kn.length) (hk:kn.length≤1000) (hpo:po.length≤1000):CallP Tryz.prog 240 [.agg [nI64 d,.list 3 (kn.map ratL),.list 12 (po.map poL)]] (.list 3 ((cvN kn po po.length).map ratL)):=by
 have hcp:LV.pure (.agg [nI64 d,.list 3 (kn.map ratL),.list 12 (po.map poL)])=true:=by simp [LV.pure,pures,pures_map ratE,pures_map poE]
 refine fnP Tryz.func240 ?_
 have ers:True:=trivial
 have etk:True:=trivial
 refine zg10 ?_
 refine st_call1 [] rfl rfl (.cons (.pure (pure_lst ratE _ _)) .nil) (c_CloneR kn h0 (by omega)) (pures_map ratE _) rfl ?_
 refine zg13 ?_
 refine lp1 (fun(i:Nat) L=>((((((St.mk L.slot (hp [(1,⟨3,[.agg [nI64 d,.list 3 (kn.map ratL),.list 12 (po.map poL)]],true⟩),(1000129,⟨3,(cvN kn po i).map ratL,true⟩)])).put (some 1) (.eptr 1 3 0 0)).put (some 3) (.ref 1000129 3 0 (kn.length+4*i))).put (some 10) (.list 12 (po.map poL))).put (some 11) (nI64 po.length)).put (some 12) (nI64 i))) (fun i=>i≤po.length) (fun i=>po.length-i) 0 (Nat.zero_le _) ?_
 rintro i L1 hi
 refine zg6 ?_
 refine wl_if rfl (fun h13r h13=>?_) (fun h13r h13=>?_)
 ·have hi2:i<po.length:=by omega
  have hlc:=cvN_len kn po i
  have ers:cvN kn po i++[(po.getD i default).p.x,(po.getD i default).p.y,(po.getD i default).p.z,(po.getD i default).w]=cvN kn po (i+1):=rfl
  have etk:((cvN kn po i).map ratL).take (kn.length+4*i)=(cvN kn po i).map ratL:=List.take_of_length_le (by rw [List.length_map];omega)
  refine zg26 ?_
  refine st_store rfl (.appX (d:=1000129) (news:=[ratL (po.getD i default).p.x,ratL (po.getD i default).p.y,ratL (po.getD i default).p.z,ratL (po.getD i default).w]) rfl rfl rfl rfl (by simp;omega) (.inl rfl) (by decide) Tryz.underlying33 Tryz.underlying33 Z29a T29 rfl B29 (.inl ⟨28,0,_,rfl,by decide,rfl,rfl,by simp,rfl,by simp [pures,ratE.pure]⟩) (by simp;omega) (by simp;omega) (by decide)) ?_
  refine zg4 ?_
  refine wl_regW ((Weak.kill _ 5).trans (Weak.kill _ 28)) ?_
  refine st_pure rfl (.bin rfl rfl (add1N (by omega))) ?_
  refine zg3 ?_
  exact nx1 (i+1) (by omega)
 ·obtain rfl:i=po.length:=by omega
  refine zg12 ?_
  exact ret1f [1000129] rfl rfl (imm_refm ratE rfl rfl (by rw [cvN_len]))
open H0 in
theorem c_CChk1 (q:Rat) (h:rl q≤1000):CallP Tryz.prog 242 [ratL q] (bL false):=by
 refine fnP Tryz.func242 ?_
 refine zg9 ?_
 refine cp am1 (c_RValid _ (by omega)) ?_
 refine zg5 ?_
 exact ret1 rfl (.pure rfl)
namespace H_c_CChk2
theorem zSm {p q:Prop} (k:q) (e:p=q:=by simp only [e1,e2,e3,e4,p1,p2,p3,q1,q2,q3,l1,t0,t1,r1,r2,r3,r4,Nat.zero_add,Nat.reduceMul,Nat.reduceAdd,b1,b2,b3,b4,b5,b6,i1,i2,i3,i4,i5,i6,Nat.reduceBEq,hsg];exact rfl):p:=e.mpr k
end H_c_CChk2
open H_c_CChk2 in
theorem c_CChk2 (q:PoR) (h:okP 1000 q):CallP Tryz.prog 247 [poL q] (bL false):=by
 obtain⟨_,hw,hp⟩:=h
 have hsg:sgnR q.w=1:=sgn_pos hp
 refine fnP Tryz.func247 ?_
 refine zg10 ?_
 refine cp am1 (c_RSign q.w (by omega)) ?_
 refine zg5 ?_
 exact ret1 rfl (.pure rfl)
open H0 in
theorem c_CChk3 (q:Rat) (h:rl q≤64):CallP Tryz.prog 248 [ratL q] (bL false):=by
 have hb:=bitR_le h
 refine fnP Tryz.func248 ?_
 refine zg9 ?_
 refine cp am1 (c_RBits q (by omega)) ?_
 refine zg5 ?_
 refine ret1 (x:=bL (decide ((bitR q:Int) > 2048))) rfl ?_
 rw [decide_eq_false (by omega)]
 exact .pure rfl
namespace H_c_CCheck
theorem zSm {p q:Prop} (k:q) (e:p=q:=by simp only [e1,e2,e3,e4,p1,p2,p3,q1,q2,q3,l1,t0,t1,r1,r2,r3,r4,Nat.zero_add,Nat.reduceMul,Nat.reduceAdd,b1,b2,b3,b4,b5,b6,i1,i2,i3,i4,i5,i6,Nat.reduceBEq,any_ff,List.set_cons_zero,List.set_cons_succ,Nat.reduceEqDiff,reduceIte,if_true,if_false,ptL_kill,poL_kill,kills_map ptE,kills_map poE,kills_map ratE,ratL_kill,spL_kill,LV.kill,kills];exact rfl):p:=e.mpr k
end H_c_CCheck
open H_c_CCheck in
theorem c_CCheck (d:Nat) (kn:List Rat) (po:List PoR) (hk:kOK kn d) (hpo:po.length=kn.length-d-1) (hq:∀ q∈po,okP 64 q):CallP Tryz.prog 155 [.agg [nI64 d,.list 3 (kn.map ratL),.list 12 (po.map poL)]] (iL 0):=by
 have hcp:LV.pure (.agg [nI64 d,.list 3 (kn.map ratL),.list 12 (po.map poL)])=true:=by simp [LV.pure,pures,pures_map ratE,pures_map poE]
 have hd1:=hk.d1
 have hd6:=hk.d6
 have hlen:=hk.len
 have hmax:=hk.max
 have hN:=cvN_len kn po po.length
 have hR:=cvN_rl hk.sz hq po.length (Nat.le_refl _)
 refine fnP Tryz.func155 ?_
 refine zg9 ?_
 refine cp am1 (c_numbers d kn po (by omega) (by omega) (by omega)) ?_
 refine zg7 ?_
 refine cp am2 (c_HasR 242 (fun _=>false) (cvN kn po po.length) (by omega) (fun x hx=>c_CChk1 x (Nat.le_trans (hR x hx) (by decide)))) ?_
 refine zg2 ?_
 refine wl_condY (b:=_) rfl (by first | rfl | exact any_ff _) ?_
 refine zg9 ?_
 refine cp am2 (c_KCheck kn d hk) ?_
 refine zg9 ?_
 refine wl_if rfl (fun h15r h15=>?_) (fun h15r h15=>?_)
 ·refine zg8 ?_
  exact ret1 rfl (.pure rfl)
 ·refine zg5 ?_
  refine wl_regD 10 (by decide +kernel) ?_
  refine zg7 ?_
  refine cp am2 (c_KPoles kn d (by omega) (by omega)) ?_
  refine zg4 ?_
  refine wl_if rfl (fun h17r h17=>?_) (fun h17r h17=>?_)
  ·omega
  ·refine zg4 ?_
   refine cp am2 (c_HasP 247 (fun _=>false) po (by omega) (fun q hx=>c_CChk2 q (by obtain⟨a,b,c⟩:=hq q hx;exact⟨a.le (by decide),by omega,c⟩))) ?_
   refine zg3 ?_
   refine wl_condY (b:=_) rfl (by first | rfl | exact any_ff _) ?_
   refine zg3 ?_
   refine cp am2 (c_HasR 248 (fun _=>false) (cvN kn po po.length) (by omega) (fun x hx=>c_CChk3 x (hR x hx))) ?_
   refine zg3 ?_
   refine wl_condY (b:=_) rfl (by first | rfl | exact any_ff _) ?_
   refine zg9 ?_
   exact ret1 rfl (.pure rfl)
namespace H_c_BzCheck
theorem zSm {p q:Prop} (k:q) (e:p=q:=by simp only [e1,e2,e3,e4,p1,p2,p3,q1,q2,q3,l1,t0,t1,r1,r2,r3,r4,Nat.zero_add,Nat.reduceMul,Nat.reduceAdd,b1,b2,b3,b4,b5,b6,i1,i2,i3,i4,i5,i6,Nat.reduceBEq,List.set_cons_zero,List.set_cons_succ,Nat.reduceEqDiff,reduceIte,if_true,if_false,ptL_kill,poL_kill,kills_map ptE,kills_map poE,kills_map ratE,ratL_kill,spL_kill,LV.kill,kills];exact rfl):p:=e.mpr k
end H_c_BzCheck
open H_c_BzCheck in
theorem c_BzCheck (d:Nat) (kn:List Rat) (po:List PoR) (h:cvF po d) (hk:kOK kn d) (hkl:kn.length=2*(d+1)):CallP Tryz.prog 57 [.agg [nI64 d,.list 3 (kn.map ratL),.list 12 (po.map poL)]] (iL 0):=by
 have hl:=h.hl
 have hd:=h.hd
 have h6:=h.h6
 have hcp:LV.pure (.agg [nI64 d,.list 3 (kn.map ratL),.list 12 (po.map poL)])=true:=by simp [LV.pure,pures,pures_map ratE,pures_map poE]
 have hq:∀ q∈po,okP 64 q:=fun q hx=>by obtain⟨a,b,c⟩:=h.ok q hx;exact⟨a.le (by decide),by omega,c⟩
 refine fnP Tryz.func57 ?_
 refine zg10 ?_
 refine cp am1 (c_CCheck d kn po hk (by omega) hq) ?_
 refine zg9 ?_
 refine wl_if rfl (fun h7r h7=>?_) (fun h7r h7=>?_)
 ·refine zg8 ?_
  exact ret1 rfl (.pure rfl)
 ·refine zg10 ?_
  refine st_pure rfl (.bin rfl rfl (add64 (by omega) (by omega))) ?_
  refine zg3 ?_
  refine wl_if rfl (fun h15r h15=>?_) (fun h15r h15=>?_)
  ·omega
  ·refine zg8 ?_
   exact ret1 rfl (.pure rfl)
end Go.Proofs.YtgfbghoihhnahaaGreat
end
section
set_option linter.unusedVariables false
set_option linter.unusedSimpArgs false
set_option maxHeartbeats 8000000
set_option maxRecDepth 100000
attribute [local irreducible] Go.Lg.opsL Go.Lg.wpL Go.Lg.thenL Go.Lg.blockL
namespace Go.Proofs.YtgfbghoihhnahaaGreat
open Go.Lg
theorem knB_lo (d:Nat) (T:Rat):(kn0 d T).getD 0 0=T:=by rw [kn0_get _ _ _ (by omega),if_pos (by omega)]
theorem knB_hi (d:Nat) (T:Rat):(kn0 d T).getD (2*(d+1)-1) 0=T+1:=by rw [kn0_get _ _ _ (by omega),if_neg (by omega)]
theorem mn_lt1 (T:Rat):mnR T (T+1)=T:=by unfold mnR;rw [if_neg (by grind)]
theorem mx_lt1 (T:Rat):mxR T (T+1)=T+1:=by unfold mxR;rw [if_pos (by grind)]
theorem wid1 (T:Rat):T+1-T=1:=by grind
theorem div1 (x:Rat):x/1=x:=by grind
def tanV (po:List PoR) (x:Rat):V3:=v3m (1/(evP (wtP po) x*evP (wtP po) x)) ⟨evP (trP po 0) x,evP (trP po 1) x,evP (trP po 2) x⟩
theorem retCCT {P:Program} {L:St} {a u v:Nat} {T U:TypeId} {b c sz sy:Nat} {x y x' y' z z':LV} {m m':Bool} {n n':Nat} {ag ag':Bool} (bs:List Nat) (h0:bs.contains 0=false) (h:L.slot a=.eptr b sz 0 0) (hb:L.heap b=some ⟨sz,[x],m⟩)
  (hx:x.csize=sz) (hat:x.at 0 n ag=some x) (hT:TyIs P T n ag) (hi:Imm (L.frz bs).heap x y) (h':L.slot u=.eptr c sy 0 0) (hc:L.heap c=some ⟨sy,[x'],m'⟩)
  (hx':x'.csize=sy) (hat':x'.at 0 n' ag'=some x') (hT':TyIs P U n' ag') (hi':Imm (L.frz bs).heap x' y') (hz:L.slot v=z) (hiz:Imm (L.frz bs).heap z z'):RetL P [.cell a T,.cell u U,.tmp v] L (.tup [y,y',z']) [] :=
 ⟨[x,x',z],[y,y',z'],(L.frz bs).heap,[],.cons ⟨b,sz,0,0,_,x,n,ag,h,hb,rfl,rfl,hx,hat,hT⟩ (.cons ⟨c,sy,0,0,_,x',n',ag',h',hc,rfl,rfl,hx',hat',hT'⟩ (.cons hz .nil)),frz_le bs h0,.cons (.imm hi) (.cons (.imm hi') (.cons (.imm hiz) .nil)),List.nodup_nil,rfl,fun k b h=>by simp at h,rfl⟩
theorem hs_ofK {p:List Rat} {x:Rat} (hl:p.length≤10) (hp:∀ y∈p,rl y≤700000) (hx:rl x≤100000):HS p x:=by
 have h1:=rl_sub 1 x
 have h0:rl 1=1:=rfl
 refine⟨rl (1-x)+rl x+1,Nat.le_refl _,by omega,fun y hy=>?_⟩
 have h2:=hp y hy
 have h3:2 ^ p.length≤2 ^ 10:=Nat.pow_le_pow_right (by decide) hl
 have h4:(rl y+(rl (1-x)+rl x+1))*2 ^ p.length≤1000000*2 ^ 10:=Nat.mul_le_mul (by omega) h3
 omega
open H0 in
theorem c_SWidth (s:Rat × Rat) (h:rl s.2+rl s.1≤549755813888):CallP Tryz.prog 140 [spL s] (ratL (s.2-s.1)):=by
 refine fnP Tryz.func140 ?_
 refine zg12 ?_
 refine cp am2 (c_RSub s.2 s.1 h) ?_
 refine zg4 ?_
 exact retC [] rfl rfl rfl (ratE.csize _) (ratL_all _) T29 (.pure (ratE.pure _))
open H0 in
theorem c_FWidth (s:Rat × Rat) (h:rl s.2+rl s.1≤34359738368):CallP Tryz.prog 38 [spL s] (ratL (s.2-s.1)):=by
 refine fnP Tryz.func38 ?_
 refine zg12 ?_
 refine cp am2 (c_FRSub s.2 s.1 h) ?_
 refine zg4 ?_
 exact retC [] rfl rfl rfl (ratE.csize _) (ratL_all _) T29 (.pure (ratE.pure _))
namespace H_c_Dom
theorem zSm {p q:Prop} (k:q) (e:p=q:=by simp only [e1,e2,e3,e4,p1,p2,p3,q1,q2,q3,l1,t0,t1,r1,r2,r3,r4,Nat.zero_add,Nat.reduceMul,Nat.reduceAdd,b1,b2,b3,b4,b5,b6,i1,i2,i3,i4,i5,i6,Nat.reduceBEq,dfq,hkl,hlo,hhi,List.length_map,List.set_cons_zero,List.set_cons_succ,Nat.reduceEqDiff,reduceIte,if_true,if_false,ptL_kill,poL_kill,kills_map ptE,kills_map poE,kills_map ratE,ratL_kill,spL_kill,LV.kill,kills];exact rfl):p:=e.mpr k
end H_c_Dom
open H_c_Dom in
theorem c_Dom (d:Nat) (T:Rat) (po:List PoR) (hT:rl T≤1) (hT1:rl (T+1)≤1) (h9:d≤6):CallP Tryz.prog 141 [.agg [nI64 d,.list 3 ((kn0 d T).map ratL),.list 12 (po.map poL)]] (spL (T,T+1)):=by
 have hpu:∀ l:List Rat,pures (l.map ratL)=true:=fun l=>pures_map ratE l
 have hkl:=kn0_len d T
 have hlo:=knB_lo d T
 have hhi:=knB_hi d T
 have hcp:LV.pure (.agg [nI64 d,.list 3 ((kn0 d T).map ratL),.list 12 (po.map poL)])=true:=by simp [LV.pure,pures,pures_map ratE,pures_map poE]
 have hS:=c_SOf T (T+1) (by omega)
 rw [mn_lt1,mx_lt1] at hS
 refine fnP Tryz.func141 ?_
 refine zg15 ?_
 refine wl_if rfl (fun h6r h6=>?_) (fun h6r h6=>?_)
 ·omega
 ·refine zg3 ?_
  refine wl_regD 13 (by decide +kernel) ?_
  refine zg9 ?_
  refine st_pure rfl (.bin rfl rfl (sub1N (by omega) (by omega))) ?_
  refine zg2 ?_
  try simp only [t1,dfq,hkl,hlo,hhi,List.length_map]
  refine cp am2 (hS) ?_
  refine zg4 ?_
  exact retC [] rfl rfl rfl (spE.csize _) (spL_all _) T42 (.pure (spE.pure _))
namespace H_c_FDom
theorem zSm {p q:Prop} (k:q) (e:p=q:=by simp only [e1,e2,e3,e4,p1,p2,p3,q1,q2,q3,l1,t0,t1,r1,r2,r3,r4,Nat.zero_add,Nat.reduceMul,Nat.reduceAdd,b1,b2,b3,b4,b5,b6,i1,i2,i3,i4,i5,i6,Nat.reduceBEq,dfq,hkl,hlo,hhi,List.length_map,List.set_cons_zero,List.set_cons_succ,Nat.reduceEqDiff,reduceIte,if_true,if_false,ptL_kill,poL_kill,kills_map ptE,kills_map poE,kills_map ratE,ratL_kill,spL_kill,LV.kill,kills];exact rfl):p:=e.mpr k
end H_c_FDom
open H_c_FDom in
theorem c_FDom (d:Nat) (T:Rat) (po:List PoR) (hT:rl T≤1) (hT1:rl (T+1)≤1) (h9:d≤6):CallP Tryz.prog 24 [.agg [nI64 d,.list 3 ((kn0 d T).map ratL),.list 12 (po.map poL)]] (spL (T,T+1)):=by
 have hpu:∀ l:List Rat,pures (l.map ratL)=true:=fun l=>pures_map ratE l
 have hkl:=kn0_len d T
 have hlo:=knB_lo d T
 have hhi:=knB_hi d T
 have hcp:LV.pure (.agg [nI64 d,.list 3 ((kn0 d T).map ratL),.list 12 (po.map poL)])=true:=by simp [LV.pure,pures,pures_map ratE,pures_map poE]
 refine fnP Tryz.func24 ?_
 refine zg7 ?_
 refine wl_regD 13 (by decide +kernel) ?_
 refine zg9 ?_
 refine st_pure rfl (.bin rfl rfl (sub1N (by omega) (by omega))) ?_
 refine zg7 ?_
 exact retC [] rfl rfl rfl (spE.csize _) (spL_all _) T42 (.pure (spE.pure _))
namespace H_c_own
theorem zSm {p q:Prop} (k:q) (e:p=q:=by simp only [e1,e2,e3,e4,p1,p2,p3,q1,q2,q3,l1,t0,t1,r1,r2,r3,r4,Nat.zero_add,Nat.reduceMul,Nat.reduceAdd,b1,b2,b3,b4,b5,b6,i1,i2,i3,i4,i5,i6,Nat.reduceBEq,List.set_cons_zero,List.set_cons_succ,Nat.reduceEqDiff,reduceIte,if_true,if_false,ptL_kill,poL_kill,kills_map ptE,kills_map poE,kills_map ratE,ratL_kill,spL_kill,LV.kill,kills];exact rfl):p:=e.mpr k
end H_c_own
open H_c_own in
theorem c_own (d:Nat) (T:Rat) (po:List PoR) (hT:rl T≤1) (hT1:rl (T+1)≤1) (h9:d≤6) (t:Rat) (ht:rl t≤1000) (hin:hasR (T,T+1) t=true) (hp0:0<po.length):CallP Tryz.prog 123 [.agg [nI64 d,.list 3 ((kn0 d T).map ratL),.list 12 (po.map poL)],ratL t] (.tup [ratL (t-T),ratL 1,bL true]):=by
 have hpu:∀ l:List Rat,pures (l.map ratL)=true:=fun l=>pures_map ratE l
 have hkl:=kn0_len d T
 have hlo:=knB_lo d T
 have hhi:=knB_hi d T
 have hcp:LV.pure (.agg [nI64 d,.list 3 ((kn0 d T).map ratL),.list 12 (po.map poL)])=true:=by simp [LV.pure,pures,pures_map ratE,pures_map poE]
 have hz1:=rl_sub t T
 have hr1:rl 1=1:=rfl
 have hD:=c_Dom d T po hT hT1 h9
 have hW:CallP Tryz.prog 140 [spL (T,T+1)] (ratL 1):=by
  have:=c_SWidth (T,T+1) (by show rl (T+1)+rl T≤_;omega)
  simp only [wid1] at this
  exact this
 have hQ:CallP Tryz.prog 125 [ratL (t-T),ratL 1] (.tup [ratL (t-T),iL 0]):=by
  have:=c_RQuo (t-T) 1 (by omega)
  rw [div1,if_neg (by decide)] at this
  exact this
 have hH:CallP Tryz.prog 216 [spL (T,T+1),ratL t] (bL true):=by
  have:=c_SHas (T,T+1) t (by show rl T+rl t≤_;omega) (by show rl t+rl (T+1)≤_;omega)
  rwa [hin] at this
 refine fnP Tryz.func123 (ht:=(tame3 (ratE.pure _) (ratE.pure _) rfl)) ?_
 refine zg12 ?_
 refine cp am1 (hD) ?_
 refine zg12 ?_
 refine op_if 15 rfl (fun h15r h15=>?_) (fun h15r h15=>?_)
 ·omega
 ·refine zg2 ?_
  refine cp am2 (hH) ?_
  refine zg4 ?_
  refine wl_if rfl (fun h20r h20=>?_) (fun h20r h20=>?_)
  ·first | exact h20.elim | cases h20r
  ·refine zg5 ?_
   refine cp am1 (hW) ?_
   refine zg4 ?_
   refine wl_regF 9 [8] (by decide +kernel) ?_
   refine zg3 ?_
   refine cp am2 (c_RSub t T (by omega)) ?_
   refine zg1 ?_
   refine cp am2 (hQ) ?_
   refine zg8 ?_
   refine wl_regA ?_
   refine any_3 0 1 2 _ _ _ (by decide +kernel) rfl rfl rfl ?_ ?_ ?_
   ·refine zg1 ?_
    refine st_nil ?_
    refine any_3 1 2 4 _ _ _ (by decide +kernel) rfl rfl rfl ?_ ?_ ?_
    ·refine zg1 ?_
     refine st_nil ?_
     refine any_2 2 4 _ _ (by decide +kernel) rfl rfl ?_ ?_
     ·refine zg1 ?_
      refine st_nil ?_
      refine any_2 3 4 _ _ (by decide +kernel) rfl rfl ?_ ?_
      ·refine zg1 ?_
       refine st_nil ?_
       refine any_1 4 _ (by decide +kernel) rfl ?_
       refine zg1 ?_
       refine st_nil ?_
       refine any_1 5 _ (by decide +kernel) rfl ?_
       refine zg1 ?_
       refine st_nil ?_
       refine any_1 6 _ (by decide +kernel) rfl ?_
       refine zg1 ?_
       refine st_nil ?_
       refine any_0 (by decide +kernel) ?_
       refine zg2 ?_
       exact retCCT [] rfl rfl rfl (ratE.csize _) (ratL_all _) T29 (.pure (ratE.pure _)) rfl rfl (ratE.csize _) (ratL_all _) T29 (.pure (ratE.pure _)) rfl (.pure rfl)
      ·refine zg1 ?_
       refine st_nil ?_
       refine any_2 3 5 _ _ (by decide +kernel) rfl rfl ?_ ?_
       ·refine zg1 ?_
        refine st_nil ?_
        refine any_1 5 _ (by decide +kernel) rfl ?_
        refine zg1 ?_
        refine st_nil ?_
        refine any_1 6 _ (by decide +kernel) rfl ?_
        refine zg1 ?_
        refine st_nil ?_
        refine any_0 (by decide +kernel) ?_
        refine zg2 ?_
        exact retCCT [] rfl rfl rfl (ratE.csize _) (ratL_all _) T29 (.pure (ratE.pure _)) rfl rfl (ratE.csize _) (ratL_all _) T29 (.pure (ratE.pure _)) rfl (.pure rfl)
       ·refine zg1 ?_
        refine st_nil ?_
        refine any_1 3 _ (by decide +kernel) rfl ?_
        refine zg1 ?_
        refine st_nil ?_
        refine any_1 6 _ (by decide +kernel) rfl ?_
        refine zg1 ?_
        refine st_nil ?_
        refine any_0 (by decide +kernel) ?_
        refine zg2 ?_
        exact retCCT [] rfl rfl rfl (ratE.csize _) (ratL_all _) T29 (.pure (ratE.pure _)) rfl rfl (ratE.csize _) (ratL_all _) T29 (.pure (ratE.pure _)) rfl (.pure rfl)
     ·refine zg1 ?_
      refine st_nil ?_
      refine any_2 2 5 _ _ (by decide +kernel) rfl rfl ?_ ?_
      ·refine zg1 ?_
       refine st_nil ?_
       refine any_2 3 5 _ _ (by decide +kernel) rfl rfl ?_ ?_
       ·refine zg1 ?_
        refine st_nil ?_
        refine any_1 5 _ (by decide +kernel) rfl ?_
        refine zg1 ?_
        refine st_nil ?_
        refine any_1 6 _ (by decide +kernel) rfl ?_
        refine zg1 ?_
        refine st_nil ?_
        refine any_0 (by decide +kernel) ?_
        refine zg2 ?_
        exact retCCT [] rfl rfl rfl (ratE.csize _) (ratL_all _) T29 (.pure (ratE.pure _)) rfl rfl (ratE.csize _) (ratL_all _) T29 (.pure (ratE.pure _)) rfl (.pure rfl)
       ·refine zg1 ?_
        refine st_nil ?_
        refine any_1 3 _ (by decide +kernel) rfl ?_
        refine zg1 ?_
        refine st_nil ?_
        refine any_1 6 _ (by decide +kernel) rfl ?_
        refine zg1 ?_
        refine st_nil ?_
        refine any_0 (by decide +kernel) ?_
        refine zg2 ?_
        exact retCCT [] rfl rfl rfl (ratE.csize _) (ratL_all _) T29 (.pure (ratE.pure _)) rfl rfl (ratE.csize _) (ratL_all _) T29 (.pure (ratE.pure _)) rfl (.pure rfl)
      ·refine zg1 ?_
       refine st_nil ?_
       refine any_1 2 _ (by decide +kernel) rfl ?_
       refine zg1 ?_
       refine st_nil ?_
       refine any_1 3 _ (by decide +kernel) rfl ?_
       refine zg1 ?_
       refine st_nil ?_
       refine any_1 6 _ (by decide +kernel) rfl ?_
       refine zg1 ?_
       refine st_nil ?_
       refine any_0 (by decide +kernel) ?_
       refine zg2 ?_
       exact retCCT [] rfl rfl rfl (ratE.csize _) (ratL_all _) T29 (.pure (ratE.pure _)) rfl rfl (ratE.csize _) (ratL_all _) T29 (.pure (ratE.pure _)) rfl (.pure rfl)
    ·refine zg1 ?_
     refine st_nil ?_
     refine any_3 1 3 4 _ _ _ (by decide +kernel) rfl rfl rfl ?_ ?_ ?_
     ·refine zg1 ?_
      refine st_nil ?_
      refine any_2 3 4 _ _ (by decide +kernel) rfl rfl ?_ ?_
      ·refine zg1 ?_
       refine st_nil ?_
       refine any_1 4 _ (by decide +kernel) rfl ?_
       refine zg1 ?_
       refine st_nil ?_
       refine any_1 5 _ (by decide +kernel) rfl ?_
       refine zg1 ?_
       refine st_nil ?_
       refine any_1 6 _ (by decide +kernel) rfl ?_
       refine zg1 ?_
       refine st_nil ?_
       refine any_0 (by decide +kernel) ?_
       refine zg2 ?_
       exact retCCT [] rfl rfl rfl (ratE.csize _) (ratL_all _) T29 (.pure (ratE.pure _)) rfl rfl (ratE.csize _) (ratL_all _) T29 (.pure (ratE.pure _)) rfl (.pure rfl)
      ·refine zg1 ?_
       refine st_nil ?_
       refine any_2 3 5 _ _ (by decide +kernel) rfl rfl ?_ ?_
       ·refine zg1 ?_
        refine st_nil ?_
        refine any_1 5 _ (by decide +kernel) rfl ?_
        refine zg1 ?_
        refine st_nil ?_
        refine any_1 6 _ (by decide +kernel) rfl ?_
        refine zg1 ?_
        refine st_nil ?_
        refine any_0 (by decide +kernel) ?_
        refine zg2 ?_
        exact retCCT [] rfl rfl rfl (ratE.csize _) (ratL_all _) T29 (.pure (ratE.pure _)) rfl rfl (ratE.csize _) (ratL_all _) T29 (.pure (ratE.pure _)) rfl (.pure rfl)
       ·refine zg1 ?_
        refine st_nil ?_
        refine any_1 3 _ (by decide +kernel) rfl ?_
        refine zg1 ?_
        refine st_nil ?_
        refine any_1 6 _ (by decide +kernel) rfl ?_
        refine zg1 ?_
        refine st_nil ?_
        refine any_0 (by decide +kernel) ?_
        refine zg2 ?_
        exact retCCT [] rfl rfl rfl (ratE.csize _) (ratL_all _) T29 (.pure (ratE.pure _)) rfl rfl (ratE.csize _) (ratL_all _) T29 (.pure (ratE.pure _)) rfl (.pure rfl)
     ·refine zg1 ?_
      refine st_nil ?_
      refine any_2 1 4 _ _ (by decide +kernel) rfl rfl ?_ ?_
      ·refine zg1 ?_
       refine st_nil ?_
       refine any_1 4 _ (by decide +kernel) rfl ?_
       refine zg1 ?_
       refine st_nil ?_
       refine any_1 5 _ (by decide +kernel) rfl ?_
       refine zg1 ?_
       refine st_nil ?_
       refine any_1 6 _ (by decide +kernel) rfl ?_
       refine zg1 ?_
       refine st_nil ?_
       refine any_0 (by decide +kernel) ?_
       refine zg2 ?_
       exact retCCT [] rfl rfl rfl (ratE.csize _) (ratL_all _) T29 (.pure (ratE.pure _)) rfl rfl (ratE.csize _) (ratL_all _) T29 (.pure (ratE.pure _)) rfl (.pure rfl)
      ·refine zg1 ?_
       refine st_nil ?_
       refine any_1 1 _ (by decide +kernel) rfl ?_
       refine zg1 ?_
       refine st_nil ?_
       refine any_1 5 _ (by decide +kernel) rfl ?_
       refine zg1 ?_
       refine st_nil ?_
       refine any_1 6 _ (by decide +kernel) rfl ?_
       refine zg1 ?_
       refine st_nil ?_
       refine any_0 (by decide +kernel) ?_
       refine zg2 ?_
       exact retCCT [] rfl rfl rfl (ratE.csize _) (ratL_all _) T29 (.pure (ratE.pure _)) rfl rfl (ratE.csize _) (ratL_all _) T29 (.pure (ratE.pure _)) rfl (.pure rfl)
     ·refine zg1 ?_
      refine st_nil ?_
      refine any_2 1 3 _ _ (by decide +kernel) rfl rfl ?_ ?_
      ·refine zg1 ?_
       refine st_nil ?_
       refine any_2 3 5 _ _ (by decide +kernel) rfl rfl ?_ ?_
       ·refine zg1 ?_
        refine st_nil ?_
        refine any_1 5 _ (by decide +kernel) rfl ?_
        refine zg1 ?_
        refine st_nil ?_
        refine any_1 6 _ (by decide +kernel) rfl ?_
        refine zg1 ?_
        refine st_nil ?_
        refine any_0 (by decide +kernel) ?_
        refine zg2 ?_
        exact retCCT [] rfl rfl rfl (ratE.csize _) (ratL_all _) T29 (.pure (ratE.pure _)) rfl rfl (ratE.csize _) (ratL_all _) T29 (.pure (ratE.pure _)) rfl (.pure rfl)
       ·refine zg1 ?_
        refine st_nil ?_
        refine any_1 3 _ (by decide +kernel) rfl ?_
        refine zg1 ?_
        refine st_nil ?_
        refine any_1 6 _ (by decide +kernel) rfl ?_
        refine zg1 ?_
        refine st_nil ?_
        refine any_0 (by decide +kernel) ?_
        refine zg2 ?_
        exact retCCT [] rfl rfl rfl (ratE.csize _) (ratL_all _) T29 (.pure (ratE.pure _)) rfl rfl (ratE.csize _) (ratL_all _) T29 (.pure (ratE.pure _)) rfl (.pure rfl)
      ·refine zg1 ?_
       refine st_nil ?_
       refine any_1 1 _ (by decide +kernel) rfl ?_
       refine zg1 ?_
       refine st_nil ?_
       refine any_1 5 _ (by decide +kernel) rfl ?_
       refine zg1 ?_
       refine st_nil ?_
       refine any_1 6 _ (by decide +kernel) rfl ?_
       refine zg1 ?_
       refine st_nil ?_
       refine any_0 (by decide +kernel) ?_
       refine zg2 ?_
       exact retCCT [] rfl rfl rfl (ratE.csize _) (ratL_all _) T29 (.pure (ratE.pure _)) rfl rfl (ratE.csize _) (ratL_all _) T29 (.pure (ratE.pure _)) rfl (.pure rfl)
    ·refine zg1 ?_
     refine st_nil ?_
     refine any_2 1 2 _ _ (by decide +kernel) rfl rfl ?_ ?_
     ·refine zg1 ?_
      refine st_nil ?_
      refine any_2 2 5 _ _ (by decide +kernel) rfl rfl ?_ ?_
      ·refine zg1 ?_
       refine st_nil ?_
       refine any_2 3 5 _ _ (by decide +kernel) rfl rfl ?_ ?_
       ·refine zg1 ?_
        refine st_nil ?_
        refine any_1 5 _ (by decide +kernel) rfl ?_
        refine zg1 ?_
        refine st_nil ?_
        refine any_1 6 _ (by decide +kernel) rfl ?_
        refine zg1 ?_
        refine st_nil ?_
        refine any_0 (by decide +kernel) ?_
        refine zg2 ?_
        exact retCCT [] rfl rfl rfl (ratE.csize _) (ratL_all _) T29 (.pure (ratE.pure _)) rfl rfl (ratE.csize _) (ratL_all _) T29 (.pure (ratE.pure _)) rfl (.pure rfl)
       ·refine zg1 ?_
        refine st_nil ?_
        refine any_1 3 _ (by decide +kernel) rfl ?_
        refine zg1 ?_
        refine st_nil ?_
        refine any_1 6 _ (by decide +kernel) rfl ?_
        refine zg1 ?_
        refine st_nil ?_
        refine any_0 (by decide +kernel) ?_
        refine zg2 ?_
        exact retCCT [] rfl rfl rfl (ratE.csize _) (ratL_all _) T29 (.pure (ratE.pure _)) rfl rfl (ratE.csize _) (ratL_all _) T29 (.pure (ratE.pure _)) rfl (.pure rfl)
      ·refine zg1 ?_
       refine st_nil ?_
       refine any_1 2 _ (by decide +kernel) rfl ?_
       refine zg1 ?_
       refine st_nil ?_
       refine any_1 3 _ (by decide +kernel) rfl ?_
       refine zg1 ?_
       refine st_nil ?_
       refine any_1 6 _ (by decide +kernel) rfl ?_
       refine zg1 ?_
       refine st_nil ?_
       refine any_0 (by decide +kernel) ?_
       refine zg2 ?_
       exact retCCT [] rfl rfl rfl (ratE.csize _) (ratL_all _) T29 (.pure (ratE.pure _)) rfl rfl (ratE.csize _) (ratL_all _) T29 (.pure (ratE.pure _)) rfl (.pure rfl)
     ·refine zg1 ?_
      refine st_nil ?_
      refine any_2 1 3 _ _ (by decide +kernel) rfl rfl ?_ ?_
      ·refine zg1 ?_
       refine st_nil ?_
       refine any_2 3 5 _ _ (by decide +kernel) rfl rfl ?_ ?_
       ·refine zg1 ?_
        refine st_nil ?_
        refine any_1 5 _ (by decide +kernel) rfl ?_
        refine zg1 ?_
        refine st_nil ?_
        refine any_1 6 _ (by decide +kernel) rfl ?_
        refine zg1 ?_
        refine st_nil ?_
        refine any_0 (by decide +kernel) ?_
        refine zg2 ?_
        exact retCCT [] rfl rfl rfl (ratE.csize _) (ratL_all _) T29 (.pure (ratE.pure _)) rfl rfl (ratE.csize _) (ratL_all _) T29 (.pure (ratE.pure _)) rfl (.pure rfl)
       ·refine zg1 ?_
        refine st_nil ?_
        refine any_1 3 _ (by decide +kernel) rfl ?_
        refine zg1 ?_
        refine st_nil ?_
        refine any_1 6 _ (by decide +kernel) rfl ?_
        refine zg1 ?_
        refine st_nil ?_
        refine any_0 (by decide +kernel) ?_
        refine zg2 ?_
        exact retCCT [] rfl rfl rfl (ratE.csize _) (ratL_all _) T29 (.pure (ratE.pure _)) rfl rfl (ratE.csize _) (ratL_all _) T29 (.pure (ratE.pure _)) rfl (.pure rfl)
      ·refine zg1 ?_
       refine st_nil ?_
       refine any_1 1 _ (by decide +kernel) rfl ?_
       refine zg1 ?_
       refine st_nil ?_
       refine any_1 5 _ (by decide +kernel) rfl ?_
       refine zg1 ?_
       refine st_nil ?_
       refine any_1 6 _ (by decide +kernel) rfl ?_
       refine zg1 ?_
       refine st_nil ?_
       refine any_0 (by decide +kernel) ?_
       refine zg2 ?_
       exact retCCT [] rfl rfl rfl (ratE.csize _) (ratL_all _) T29 (.pure (ratE.pure _)) rfl rfl (ratE.csize _) (ratL_all _) T29 (.pure (ratE.pure _)) rfl (.pure rfl)
   ·refine zg1 ?_
    refine st_nil ?_
    refine any_2 0 2 _ _ (by decide +kernel) rfl rfl ?_ ?_
    ·refine zg1 ?_
     refine st_nil ?_
     refine any_2 2 4 _ _ (by decide +kernel) rfl rfl ?_ ?_
     ·refine zg1 ?_
      refine st_nil ?_
      refine any_2 3 4 _ _ (by decide +kernel) rfl rfl ?_ ?_
      ·refine zg1 ?_
       refine st_nil ?_
       refine any_1 4 _ (by decide +kernel) rfl ?_
       refine zg1 ?_
       refine st_nil ?_
       refine any_1 5 _ (by decide +kernel) rfl ?_
       refine zg1 ?_
       refine st_nil ?_
       refine any_1 6 _ (by decide +kernel) rfl ?_
       refine zg1 ?_
       refine st_nil ?_
       refine any_0 (by decide +kernel) ?_
       refine zg2 ?_
       exact retCCT [] rfl rfl rfl (ratE.csize _) (ratL_all _) T29 (.pure (ratE.pure _)) rfl rfl (ratE.csize _) (ratL_all _) T29 (.pure (ratE.pure _)) rfl (.pure rfl)
      ·refine zg1 ?_
       refine st_nil ?_
       refine any_2 3 5 _ _ (by decide +kernel) rfl rfl ?_ ?_
       ·refine zg1 ?_
        refine st_nil ?_
        refine any_1 5 _ (by decide +kernel) rfl ?_
        refine zg1 ?_
        refine st_nil ?_
        refine any_1 6 _ (by decide +kernel) rfl ?_
        refine zg1 ?_
        refine st_nil ?_
        refine any_0 (by decide +kernel) ?_
        refine zg2 ?_
        exact retCCT [] rfl rfl rfl (ratE.csize _) (ratL_all _) T29 (.pure (ratE.pure _)) rfl rfl (ratE.csize _) (ratL_all _) T29 (.pure (ratE.pure _)) rfl (.pure rfl)
       ·refine zg1 ?_
        refine st_nil ?_
        refine any_1 3 _ (by decide +kernel) rfl ?_
        refine zg1 ?_
        refine st_nil ?_
        refine any_1 6 _ (by decide +kernel) rfl ?_
        refine zg1 ?_
        refine st_nil ?_
        refine any_0 (by decide +kernel) ?_
        refine zg2 ?_
        exact retCCT [] rfl rfl rfl (ratE.csize _) (ratL_all _) T29 (.pure (ratE.pure _)) rfl rfl (ratE.csize _) (ratL_all _) T29 (.pure (ratE.pure _)) rfl (.pure rfl)
     ·refine zg1 ?_
      refine st_nil ?_
      refine any_2 2 5 _ _ (by decide +kernel) rfl rfl ?_ ?_
      ·refine zg1 ?_
       refine st_nil ?_
       refine any_2 3 5 _ _ (by decide +kernel) rfl rfl ?_ ?_
       ·refine zg1 ?_
        refine st_nil ?_
        refine any_1 5 _ (by decide +kernel) rfl ?_
        refine zg1 ?_
        refine st_nil ?_
        refine any_1 6 _ (by decide +kernel) rfl ?_
        refine zg1 ?_
        refine st_nil ?_
        refine any_0 (by decide +kernel) ?_
        refine zg2 ?_
        exact retCCT [] rfl rfl rfl (ratE.csize _) (ratL_all _) T29 (.pure (ratE.pure _)) rfl rfl (ratE.csize _) (ratL_all _) T29 (.pure (ratE.pure _)) rfl (.pure rfl)
       ·refine zg1 ?_
        refine st_nil ?_
        refine any_1 3 _ (by decide +kernel) rfl ?_
        refine zg1 ?_
        refine st_nil ?_
        refine any_1 6 _ (by decide +kernel) rfl ?_
        refine zg1 ?_
        refine st_nil ?_
        refine any_0 (by decide +kernel) ?_
        refine zg2 ?_
        exact retCCT [] rfl rfl rfl (ratE.csize _) (ratL_all _) T29 (.pure (ratE.pure _)) rfl rfl (ratE.csize _) (ratL_all _) T29 (.pure (ratE.pure _)) rfl (.pure rfl)
      ·refine zg1 ?_
       refine st_nil ?_
       refine any_1 2 _ (by decide +kernel) rfl ?_
       refine zg1 ?_
       refine st_nil ?_
       refine any_1 3 _ (by decide +kernel) rfl ?_
       refine zg1 ?_
       refine st_nil ?_
       refine any_1 6 _ (by decide +kernel) rfl ?_
       refine zg1 ?_
       refine st_nil ?_
       refine any_0 (by decide +kernel) ?_
       refine zg2 ?_
       exact retCCT [] rfl rfl rfl (ratE.csize _) (ratL_all _) T29 (.pure (ratE.pure _)) rfl rfl (ratE.csize _) (ratL_all _) T29 (.pure (ratE.pure _)) rfl (.pure rfl)
    ·refine zg1 ?_
     refine st_nil ?_
     refine any_2 0 3 _ _ (by decide +kernel) rfl rfl ?_ ?_
     ·refine zg1 ?_
      refine st_nil ?_
      refine any_2 3 4 _ _ (by decide +kernel) rfl rfl ?_ ?_
      ·refine zg1 ?_
       refine st_nil ?_
       refine any_1 4 _ (by decide +kernel) rfl ?_
       refine zg1 ?_
       refine st_nil ?_
       refine any_1 5 _ (by decide +kernel) rfl ?_
       refine zg1 ?_
       refine st_nil ?_
       refine any_1 6 _ (by decide +kernel) rfl ?_
       refine zg1 ?_
       refine st_nil ?_
       refine any_0 (by decide +kernel) ?_
       refine zg2 ?_
       exact retCCT [] rfl rfl rfl (ratE.csize _) (ratL_all _) T29 (.pure (ratE.pure _)) rfl rfl (ratE.csize _) (ratL_all _) T29 (.pure (ratE.pure _)) rfl (.pure rfl)
      ·refine zg1 ?_
       refine st_nil ?_
       refine any_2 3 5 _ _ (by decide +kernel) rfl rfl ?_ ?_
       ·refine zg1 ?_
        refine st_nil ?_
        refine any_1 5 _ (by decide +kernel) rfl ?_
        refine zg1 ?_
        refine st_nil ?_
        refine any_1 6 _ (by decide +kernel) rfl ?_
        refine zg1 ?_
        refine st_nil ?_
        refine any_0 (by decide +kernel) ?_
        refine zg2 ?_
        exact retCCT [] rfl rfl rfl (ratE.csize _) (ratL_all _) T29 (.pure (ratE.pure _)) rfl rfl (ratE.csize _) (ratL_all _) T29 (.pure (ratE.pure _)) rfl (.pure rfl)
       ·refine zg1 ?_
        refine st_nil ?_
        refine any_1 3 _ (by decide +kernel) rfl ?_
        refine zg1 ?_
        refine st_nil ?_
        refine any_1 6 _ (by decide +kernel) rfl ?_
        refine zg1 ?_
        refine st_nil ?_
        refine any_0 (by decide +kernel) ?_
        refine zg2 ?_
        exact retCCT [] rfl rfl rfl (ratE.csize _) (ratL_all _) T29 (.pure (ratE.pure _)) rfl rfl (ratE.csize _) (ratL_all _) T29 (.pure (ratE.pure _)) rfl (.pure rfl)
     ·refine zg1 ?_
      refine st_nil ?_
      refine any_1 0 _ (by decide +kernel) rfl ?_
      refine zg1 ?_
      refine st_nil ?_
      refine any_1 4 _ (by decide +kernel) rfl ?_
      refine zg1 ?_
      refine st_nil ?_
      refine any_1 5 _ (by decide +kernel) rfl ?_
      refine zg1 ?_
      refine st_nil ?_
      refine any_1 6 _ (by decide +kernel) rfl ?_
      refine zg1 ?_
      refine st_nil ?_
      refine any_0 (by decide +kernel) ?_
      refine zg2 ?_
      exact retCCT [] rfl rfl rfl (ratE.csize _) (ratL_all _) T29 (.pure (ratE.pure _)) rfl rfl (ratE.csize _) (ratL_all _) T29 (.pure (ratE.pure _)) rfl (.pure rfl)
   ·refine zg1 ?_
    refine st_nil ?_
    refine any_3 0 1 3 _ _ _ (by decide +kernel) rfl rfl rfl ?_ ?_ ?_
    ·refine zg1 ?_
     refine st_nil ?_
     refine any_3 1 3 4 _ _ _ (by decide +kernel) rfl rfl rfl ?_ ?_ ?_
     ·refine zg1 ?_
      refine st_nil ?_
      refine any_2 3 4 _ _ (by decide +kernel) rfl rfl ?_ ?_
      ·refine zg1 ?_
       refine st_nil ?_
       refine any_1 4 _ (by decide +kernel) rfl ?_
       refine zg1 ?_
       refine st_nil ?_
       refine any_1 5 _ (by decide +kernel) rfl ?_
       refine zg1 ?_
       refine st_nil ?_
       refine any_1 6 _ (by decide +kernel) rfl ?_
       refine zg1 ?_
       refine st_nil ?_
       refine any_0 (by decide +kernel) ?_
       refine zg2 ?_
       exact retCCT [] rfl rfl rfl (ratE.csize _) (ratL_all _) T29 (.pure (ratE.pure _)) rfl rfl (ratE.csize _) (ratL_all _) T29 (.pure (ratE.pure _)) rfl (.pure rfl)
      ·refine zg1 ?_
       refine st_nil ?_
       refine any_2 3 5 _ _ (by decide +kernel) rfl rfl ?_ ?_
       ·refine zg1 ?_
        refine st_nil ?_
        refine any_1 5 _ (by decide +kernel) rfl ?_
        refine zg1 ?_
        refine st_nil ?_
        refine any_1 6 _ (by decide +kernel) rfl ?_
        refine zg1 ?_
        refine st_nil ?_
        refine any_0 (by decide +kernel) ?_
        refine zg2 ?_
        exact retCCT [] rfl rfl rfl (ratE.csize _) (ratL_all _) T29 (.pure (ratE.pure _)) rfl rfl (ratE.csize _) (ratL_all _) T29 (.pure (ratE.pure _)) rfl (.pure rfl)
       ·refine zg1 ?_
        refine st_nil ?_
        refine any_1 3 _ (by decide +kernel) rfl ?_
        refine zg1 ?_
        refine st_nil ?_
        refine any_1 6 _ (by decide +kernel) rfl ?_
        refine zg1 ?_
        refine st_nil ?_
        refine any_0 (by decide +kernel) ?_
        refine zg2 ?_
        exact retCCT [] rfl rfl rfl (ratE.csize _) (ratL_all _) T29 (.pure (ratE.pure _)) rfl rfl (ratE.csize _) (ratL_all _) T29 (.pure (ratE.pure _)) rfl (.pure rfl)
     ·refine zg1 ?_
      refine st_nil ?_
      refine any_2 1 4 _ _ (by decide +kernel) rfl rfl ?_ ?_
      ·refine zg1 ?_
       refine st_nil ?_
       refine any_1 4 _ (by decide +kernel) rfl ?_
       refine zg1 ?_
       refine st_nil ?_
       refine any_1 5 _ (by decide +kernel) rfl ?_
       refine zg1 ?_
       refine st_nil ?_
       refine any_1 6 _ (by decide +kernel) rfl ?_
       refine zg1 ?_
       refine st_nil ?_
       refine any_0 (by decide +kernel) ?_
       refine zg2 ?_
       exact retCCT [] rfl rfl rfl (ratE.csize _) (ratL_all _) T29 (.pure (ratE.pure _)) rfl rfl (ratE.csize _) (ratL_all _) T29 (.pure (ratE.pure _)) rfl (.pure rfl)
      ·refine zg1 ?_
       refine st_nil ?_
       refine any_1 1 _ (by decide +kernel) rfl ?_
       refine zg1 ?_
       refine st_nil ?_
       refine any_1 5 _ (by decide +kernel) rfl ?_
       refine zg1 ?_
       refine st_nil ?_
       refine any_1 6 _ (by decide +kernel) rfl ?_
       refine zg1 ?_
       refine st_nil ?_
       refine any_0 (by decide +kernel) ?_
       refine zg2 ?_
       exact retCCT [] rfl rfl rfl (ratE.csize _) (ratL_all _) T29 (.pure (ratE.pure _)) rfl rfl (ratE.csize _) (ratL_all _) T29 (.pure (ratE.pure _)) rfl (.pure rfl)
     ·refine zg1 ?_
      refine st_nil ?_
      refine any_2 1 3 _ _ (by decide +kernel) rfl rfl ?_ ?_
      ·refine zg1 ?_
       refine st_nil ?_
       refine any_2 3 5 _ _ (by decide +kernel) rfl rfl ?_ ?_
       ·refine zg1 ?_
        refine st_nil ?_
        refine any_1 5 _ (by decide +kernel) rfl ?_
        refine zg1 ?_
        refine st_nil ?_
        refine any_1 6 _ (by decide +kernel) rfl ?_
        refine zg1 ?_
        refine st_nil ?_
        refine any_0 (by decide +kernel) ?_
        refine zg2 ?_
        exact retCCT [] rfl rfl rfl (ratE.csize _) (ratL_all _) T29 (.pure (ratE.pure _)) rfl rfl (ratE.csize _) (ratL_all _) T29 (.pure (ratE.pure _)) rfl (.pure rfl)
       ·refine zg1 ?_
        refine st_nil ?_
        refine any_1 3 _ (by decide +kernel) rfl ?_
        refine zg1 ?_
        refine st_nil ?_
        refine any_1 6 _ (by decide +kernel) rfl ?_
        refine zg1 ?_
        refine st_nil ?_
        refine any_0 (by decide +kernel) ?_
        refine zg2 ?_
        exact retCCT [] rfl rfl rfl (ratE.csize _) (ratL_all _) T29 (.pure (ratE.pure _)) rfl rfl (ratE.csize _) (ratL_all _) T29 (.pure (ratE.pure _)) rfl (.pure rfl)
      ·refine zg1 ?_
       refine st_nil ?_
       refine any_1 1 _ (by decide +kernel) rfl ?_
       refine zg1 ?_
       refine st_nil ?_
       refine any_1 5 _ (by decide +kernel) rfl ?_
       refine zg1 ?_
       refine st_nil ?_
       refine any_1 6 _ (by decide +kernel) rfl ?_
       refine zg1 ?_
       refine st_nil ?_
       refine any_0 (by decide +kernel) ?_
       refine zg2 ?_
       exact retCCT [] rfl rfl rfl (ratE.csize _) (ratL_all _) T29 (.pure (ratE.pure _)) rfl rfl (ratE.csize _) (ratL_all _) T29 (.pure (ratE.pure _)) rfl (.pure rfl)
    ·refine zg1 ?_
     refine st_nil ?_
     refine any_2 0 3 _ _ (by decide +kernel) rfl rfl ?_ ?_
     ·refine zg1 ?_
      refine st_nil ?_
      refine any_2 3 4 _ _ (by decide +kernel) rfl rfl ?_ ?_
      ·refine zg1 ?_
       refine st_nil ?_
       refine any_1 4 _ (by decide +kernel) rfl ?_
       refine zg1 ?_
       refine st_nil ?_
       refine any_1 5 _ (by decide +kernel) rfl ?_
       refine zg1 ?_
       refine st_nil ?_
       refine any_1 6 _ (by decide +kernel) rfl ?_
       refine zg1 ?_
       refine st_nil ?_
       refine any_0 (by decide +kernel) ?_
       refine zg2 ?_
       exact retCCT [] rfl rfl rfl (ratE.csize _) (ratL_all _) T29 (.pure (ratE.pure _)) rfl rfl (ratE.csize _) (ratL_all _) T29 (.pure (ratE.pure _)) rfl (.pure rfl)
      ·refine zg1 ?_
       refine st_nil ?_
       refine any_2 3 5 _ _ (by decide +kernel) rfl rfl ?_ ?_
       ·refine zg1 ?_
        refine st_nil ?_
        refine any_1 5 _ (by decide +kernel) rfl ?_
        refine zg1 ?_
        refine st_nil ?_
        refine any_1 6 _ (by decide +kernel) rfl ?_
        refine zg1 ?_
        refine st_nil ?_
        refine any_0 (by decide +kernel) ?_
        refine zg2 ?_
        exact retCCT [] rfl rfl rfl (ratE.csize _) (ratL_all _) T29 (.pure (ratE.pure _)) rfl rfl (ratE.csize _) (ratL_all _) T29 (.pure (ratE.pure _)) rfl (.pure rfl)
       ·refine zg1 ?_
        refine st_nil ?_
        refine any_1 3 _ (by decide +kernel) rfl ?_
        refine zg1 ?_
        refine st_nil ?_
        refine any_1 6 _ (by decide +kernel) rfl ?_
        refine zg1 ?_
        refine st_nil ?_
        refine any_0 (by decide +kernel) ?_
        refine zg2 ?_
        exact retCCT [] rfl rfl rfl (ratE.csize _) (ratL_all _) T29 (.pure (ratE.pure _)) rfl rfl (ratE.csize _) (ratL_all _) T29 (.pure (ratE.pure _)) rfl (.pure rfl)
     ·refine zg1 ?_
      refine st_nil ?_
      refine any_1 0 _ (by decide +kernel) rfl ?_
      refine zg1 ?_
      refine st_nil ?_
      refine any_1 4 _ (by decide +kernel) rfl ?_
      refine zg1 ?_
      refine st_nil ?_
      refine any_1 5 _ (by decide +kernel) rfl ?_
      refine zg1 ?_
      refine st_nil ?_
      refine any_1 6 _ (by decide +kernel) rfl ?_
      refine zg1 ?_
      refine st_nil ?_
      refine any_0 (by decide +kernel) ?_
      refine zg2 ?_
      exact retCCT [] rfl rfl rfl (ratE.csize _) (ratL_all _) T29 (.pure (ratE.pure _)) rfl rfl (ratE.csize _) (ratL_all _) T29 (.pure (ratE.pure _)) rfl (.pure rfl)
    ·refine zg1 ?_
     refine st_nil ?_
     refine any_2 0 1 _ _ (by decide +kernel) rfl rfl ?_ ?_
     ·refine zg1 ?_
      refine st_nil ?_
      refine any_2 1 4 _ _ (by decide +kernel) rfl rfl ?_ ?_
      ·refine zg1 ?_
       refine st_nil ?_
       refine any_1 4 _ (by decide +kernel) rfl ?_
       refine zg1 ?_
       refine st_nil ?_
       refine any_1 5 _ (by decide +kernel) rfl ?_
       refine zg1 ?_
       refine st_nil ?_
       refine any_1 6 _ (by decide +kernel) rfl ?_
       refine zg1 ?_
       refine st_nil ?_
       refine any_0 (by decide +kernel) ?_
       refine zg2 ?_
       exact retCCT [] rfl rfl rfl (ratE.csize _) (ratL_all _) T29 (.pure (ratE.pure _)) rfl rfl (ratE.csize _) (ratL_all _) T29 (.pure (ratE.pure _)) rfl (.pure rfl)
      ·refine zg1 ?_
       refine st_nil ?_
       refine any_1 1 _ (by decide +kernel) rfl ?_
       refine zg1 ?_
       refine st_nil ?_
       refine any_1 5 _ (by decide +kernel) rfl ?_
       refine zg1 ?_
       refine st_nil ?_
       refine any_1 6 _ (by decide +kernel) rfl ?_
       refine zg1 ?_
       refine st_nil ?_
       refine any_0 (by decide +kernel) ?_
       refine zg2 ?_
       exact retCCT [] rfl rfl rfl (ratE.csize _) (ratL_all _) T29 (.pure (ratE.pure _)) rfl rfl (ratE.csize _) (ratL_all _) T29 (.pure (ratE.pure _)) rfl (.pure rfl)
     ·refine zg1 ?_
      refine st_nil ?_
      refine any_1 0 _ (by decide +kernel) rfl ?_
      refine zg1 ?_
      refine st_nil ?_
      refine any_1 4 _ (by decide +kernel) rfl ?_
      refine zg1 ?_
      refine st_nil ?_
      refine any_1 5 _ (by decide +kernel) rfl ?_
      refine zg1 ?_
      refine st_nil ?_
      refine any_1 6 _ (by decide +kernel) rfl ?_
      refine zg1 ?_
      refine st_nil ?_
      refine any_0 (by decide +kernel) ?_
      refine zg2 ?_
      exact retCCT [] rfl rfl rfl (ratE.csize _) (ratL_all _) T29 (.pure (ratE.pure _)) rfl rfl (ratE.csize _) (ratL_all _) T29 (.pure (ratE.pure _)) rfl (.pure rfl)
namespace H_c_Tan
theorem zSm {p q:Prop} (k:q) (e:p=q:=by simp only [e1,e2,e3,e4,p1,p2,p3,q1,q2,q3,l1,t0,t1,r1,r2,r3,r4,Nat.zero_add,Nat.reduceMul,Nat.reduceAdd,b1,b2,b3,b4,b5,b6,i1,i2,i3,i4,i5,i6,Nat.reduceBEq,List.set_cons_zero,List.set_cons_succ,Nat.reduceEqDiff,reduceIte,if_true,if_false,ptL_kill,poL_kill,kills_map ptE,kills_map poE,kills_map ratE,ratL_kill,spL_kill,LV.kill,kills];exact rfl):p:=e.mpr k
end H_c_Tan
open H_c_Tan in
theorem c_Tan (d:Nat) (T:Rat) (po:List PoR) (hT:rl T≤1) (hT1:rl (T+1)≤1) (h9:d≤6) (t:Rat) (ht:rl t≤1000) (hin:hasR (T,T+1) t=true) (h:cvF po d) (hd5:d≤5):CallP Tryz.prog 31 [.agg [nI64 d,.list 3 ((kn0 d T).map ratL),.list 12 (po.map poL)],ratL t] (.tup [ptL (tanV po (t-T)),iL 0]):=by
 have hp0:0<po.length:=by have:=h.hl;omega
 have hpu:∀ l:List Rat,pures (l.map ratL)=true:=fun l=>pures_map ratE l
 have hkl:=kn0_len d T
 have hlo:=knB_lo d T
 have hhi:=knB_hi d T
 have hcp:LV.pure (.agg [nI64 d,.list 3 ((kn0 d T).map ratL),.list 12 (po.map poL)])=true:=by simp [LV.pure,pures,pures_map ratE,pures_map poE]
 have hz1:=rl_sub t T
 have hr1:rl 1=1:=rfl
 have hD:=c_Dom d T po hT hT1 h9
 have hW:CallP Tryz.prog 140 [spL (T,T+1)] (ratL 1):=by
  have:=c_SWidth (T,T+1) (by show rl (T+1)+rl T≤_;omega)
  simp only [wid1] at this
  exact this
 have hQ:CallP Tryz.prog 125 [ratL (t-T),ratL 1] (.tup [ratL (t-T),iL 0]):=by
  have:=c_RQuo (t-T) 1 (by omega)
  rw [div1,if_neg (by decide)] at this
  exact this
 have hH:CallP Tryz.prog 216 [spL (T,T+1),ratL t] (bL true):=by
  have:=c_SHas (T,T+1) t (by show rl T+rl t≤_;omega) (by show rl t+rl (T+1)≤_;omega)
  rwa [hin] at this
 have hl:=h.hl
 have w1:=h.w
 have hs0:HS (wtP po) (t-T):=hs_ofK (by omega) (fun x hx=>Nat.le_trans (w1.2 x hx) (by decide)) (by omega)
 have q0:=hs0.ev
 have m0:=rl_mul (evP (wtP po) (t-T)) (evP (wtP po) (t-T))
 have m1:=rl_div 1 ((evP (wtP po) (t-T))*(evP (wtP po) (t-T)))
 have u0:=h.t 0
 have v0:HS (trP po 0) (t-T):=hs_ofK (by omega) (fun x hx=>Nat.le_trans (u0.2 x hx) (by decide)) (by omega)
 have y0:=v0.ev
 have u1:=h.t 1
 have v1:HS (trP po 1) (t-T):=hs_ofK (by omega) (fun x hx=>Nat.le_trans (u1.2 x hx) (by decide)) (by omega)
 have y1:=v1.ev
 have u2:=h.t 2
 have v2:HS (trP po 2) (t-T):=hs_ofK (by omega) (fun x hx=>Nat.le_trans (u2.2 x hx) (by decide)) (by omega)
 have y2:=v2.ev
 have h1c:CallP Tryz.prog 126 [iL 1] (ratL 1):=c_RInt 1 (by decide) (by decide)
 have hM:CallP Tryz.prog 127 [ratL 1,ratL ((evP (wtP po) (t-T))*(evP (wtP po) (t-T)))] (ratL ((evP (wtP po) (t-T))*(evP (wtP po) (t-T)))):=by
  have:=c_RMul 1 ((evP (wtP po) (t-T))*(evP (wtP po) (t-T))) (by omega)
  rwa [Rat.one_mul] at this
 refine fnP Tryz.func31 (ht:=(tame2 (ptE.pure _) rfl)) ?_
 refine zg12 ?_
 refine cp am2 (c_own d T po hT hT1 h9 t ht hin hp0) ?_
 refine zg18 ?_
 refine wl_if rfl (fun h23r h23=>?_) (fun h23r h23=>?_)
 ·first | exact h23.elim | cases h23r
 ·refine zg3 ?_
  refine wl_regD 6 (by decide +kernel) ?_
  refine zg1 ?_
  refine cp am1 (c_BNum d (kn0 d T) po h) ?_
  refine zg2 ?_
  refine cp am2 (c_BEval (wtP po) (t-T) hs0 (by omega)) ?_
  refine zg5 ?_
  refine wl_regF 11 [9] (by decide +kernel) ?_
  refine cp am1 (h1c) ?_
  refine zg3 ?_
  refine cp am2 (c_RMul (evP (wtP po) (t-T)) (evP (wtP po) (t-T)) (by omega)) ?_
  refine cp am2 (hM) ?_
  refine cp am2 (c_RQuo 1 ((evP (wtP po) (t-T))*(evP (wtP po) (t-T))) (by omega)) ?_
  refine zg17 ?_
  refine cp am1 (c_turns d (kn0 d T) po h) ?_
  refine zg4 ?_
  refine wl_unroll ?_
  refine zg6 ?_
  refine wl_condX (b:=_) rfl (by decide) ?_
  refine zg12 ?_
  refine wl_regD 7 (by decide +kernel) ?_
  refine zg4 ?_
  refine cp am2 (c_BEval (trP po 0) (t-T) v0 (by omega)) ?_
  refine cp am2 (c_RMul (1/((evP (wtP po) (t-T))*(evP (wtP po) (t-T)))) (evP (trP po 0) (t-T)) (by omega)) ?_
  refine zg10 ?_
  refine wl_unroll ?_
  refine zg6 ?_
  refine wl_condX (b:=_) rfl (by decide) ?_
  refine zg12 ?_
  refine wl_regD 7 (by decide +kernel) ?_
  refine zg4 ?_
  refine cp am2 (c_BEval (trP po 1) (t-T) v1 (by omega)) ?_
  refine cp am2 (c_RMul (1/((evP (wtP po) (t-T))*(evP (wtP po) (t-T)))) (evP (trP po 1) (t-T)) (by omega)) ?_
  refine zg10 ?_
  refine wl_unroll ?_
  refine zg6 ?_
  refine wl_condX (b:=_) rfl (by decide) ?_
  refine zg12 ?_
  refine wl_regD 7 (by decide +kernel) ?_
  refine zg4 ?_
  refine cp am2 (c_BEval (trP po 2) (t-T) v2 (by omega)) ?_
  refine cp am2 (c_RMul (1/((evP (wtP po) (t-T))*(evP (wtP po) (t-T)))) (evP (trP po 2) (t-T)) (by omega)) ?_
  refine zg10 ?_
  refine wl_unroll ?_
  refine zg6 ?_
  refine wl_condY (b:=_) rfl (by decide) ?_
  refine zg13 ?_
  exact retCT [] rfl rfl rfl cs (at_all cs rfl) T31 (.pure pu) rfl (.pure rfl)
end Go.Proofs.YtgfbghoihhnahaaGreat
end
section
set_option linter.unusedVariables false
set_option linter.unusedSimpArgs false
set_option maxHeartbeats 8000000
set_option maxRecDepth 100000
attribute [local irreducible] Go.Lg.opsL Go.Lg.wpL Go.Lg.thenL Go.Lg.blockL
namespace Go.Proofs.YtgfbghoihhnahaaGreat
open Go.Lg
namespace H_c_Adv
theorem zSm {p q:Prop} (k:q) (e:p=q:=by simp only [e1,e2,e3,e4,p1,p2,p3,q1,q2,q3,l1,t0,t1,r1,r2,r3,r4,Nat.zero_add,Nat.reduceMul,Nat.reduceAdd,b1,b2,b3,b4,b5,b6,i1,i2,i3,i4,i5,i6,Nat.reduceBEq,List.set_cons_zero,List.set_cons_succ,Nat.reduceEqDiff,reduceIte,if_true,if_false,ptL_kill,poL_kill,kills_map ptE,kills_map poE,kills_map ratE,ratL_kill,spL_kill,LV.kill,kills];exact rfl):p:=e.mpr k
end H_c_Adv
open H_c_Adv in
theorem c_Adv (d:Nat) (kn:List Rat) (po:List PoR) (h:cvF po d) (v:V3) (hv:bd3 1 v):CallP Tryz.prog 22 [.agg [nI64 d,.list 3 (kn.map ratL),.list 12 (po.map poL)],ptL v] (iL (advV (bndP (smA po v)))):=by
 have hl:=h.hl
 have hd:=h.hd
 have h6:=h.h6
 have hcp:LV.pure (.agg [nI64 d,.list 3 (kn.map ratL),.list 12 (po.map poL)])=true:=by simp [LV.pure,pures,pures_map ratE,pures_map poE]
 have hpu:∀ l:List Rat,pures (l.map ratL)=true:=fun l=>pures_map ratE l
 obtain⟨v0,v1,v2⟩:=hv
 have tt0:=h.t 0
 have s0:=scP_rl v0 tt0.2
 have g0:(scP v.x (trP po 0)).length=2*d-1+1:=by rw [scP_len];exact tt0.1
 have tt1:=h.t 1
 have s1:=scP_rl v1 tt1.2
 have g1:(scP v.y (trP po 1)).length=2*d-1+1:=by rw [scP_len];exact tt1.1
 have tt2:=h.t 2
 have s2:=scP_rl v2 tt2.2
 have g2:(scP v.z (trP po 2)).length=2*d-1+1:=by rw [scP_len];exact tt2.1
 have z1:=zipK_rl2 add_rlK (by decide) (by decide) s0 s1
 have z2:=zipK_rl2 add_rlK (by decide) (by decide) z1 s2
 have gz:(zipG (·+·) (scP v.x (trP po 0)) (scP v.y (trP po 1))).length=2*d-1+1:=by rw [zipG_len];exact g0
 have hbd:=bnd_rl (by decide) z2
 have gs:(smA po v).length=2*d-1+1:=by rw [smA,zipG_len];exact gz
 refine fnP Tryz.func22 ?_
 refine zg9 ?_
 refine st_pure rfl (.build0 SL29 Z29a) ?_
 refine zg8 ?_
 refine cp am1 (c_turns d kn po h) ?_
 refine zg4 ?_
 refine wl_unroll ?_
 refine zg6 ?_
 refine wl_condX (b:=_) rfl (by decide) ?_
 refine zg18 ?_
 refine cp am2 (c_BScale v.x (trP po 0) (by omega) (fun x hx=>by have:=tt0.2 x hx;omega)) ?_
 refine st_callPf [10] rfl rfl (.cons (imm_refm (l:=[0]) ratE rfl rfl rfl) (.cons (.pure (pure_lst ratE _ _)) .nil)) (c_BAdd0 (scP v.x (trP po 0)) (2*d-1) (by omega) g0 (fun x hx=>Nat.le_trans (s0 x hx) (by decide))) ?_
 refine zg9 ?_
 refine wl_unroll ?_
 refine zg6 ?_
 refine wl_condX (b:=_) rfl (by decide) ?_
 refine zg18 ?_
 refine cp am2 (c_BScale v.y (trP po 1) (by omega) (fun x hx=>by have:=tt1.2 x hx;omega)) ?_
 refine cp am2 (c_BAdds (scP v.x (trP po 0)) (scP v.y (trP po 1)) (2*d-1) (by omega) g0 g1 (fun x hx=>Nat.le_trans (s0 x hx) (by decide)) (fun x hx=>Nat.le_trans (s1 x hx) (by decide))) ?_
 refine zg9 ?_
 refine wl_unroll ?_
 refine zg6 ?_
 refine wl_condX (b:=_) rfl (by decide) ?_
 refine zg18 ?_
 refine cp am2 (c_BScale v.z (trP po 2) (by omega) (fun x hx=>by have:=tt2.2 x hx;omega)) ?_
 refine cp am2 (c_BAdds (zipG (·+·) (scP v.x (trP po 0)) (scP v.y (trP po 1))) (scP v.z (trP po 2)) (2*d-1) (by omega) gz g2 (fun x hx=>Nat.le_trans (z1 x hx) (by decide)) (fun x hx=>Nat.le_trans (s2 x hx) (by decide))) ?_
 refine zg9 ?_
 refine wl_unroll ?_
 refine zg6 ?_
 refine wl_condY (b:=_) rfl (by decide) ?_
 refine zg9 ?_
 refine cp am1 (c_Bounds (smA po v) (by omega) (fun x hx=>Nat.le_trans (z2 x hx) (by decide))) ?_
 refine zg9 ?_
 refine cp am1 (c_RSign (bndP (smA po v)).1 (Nat.le_trans hbd.1 (by decide))) ?_
 refine zg4 ?_
 refine wl_if rfl (fun h27r h27=>?_) (fun h27r h27=>?_)
 ·have hV:advV (bndP (smA po v))=1:=by unfold advV;rw [if_pos (by omega)]
  refine zg8 ?_
  rw [hV]
  exact ret1 rfl (.pure rfl)
 ·refine zg4 ?_
  refine cp am1 (c_RSign (bndP (smA po v)).2 (Nat.le_trans hbd.2 (by decide))) ?_
  refine zg4 ?_
  refine wl_if rfl (fun h32r h32=>?_) (fun h32r h32=>?_)
  ·have hV:advV (bndP (smA po v))=0:=by unfold advV;rw [if_neg (by omega),if_pos (by omega)]
   refine zg8 ?_
   rw [hV]
   exact ret1 rfl (.pure rfl)
  ·have hV:advV (bndP (smA po v))=2:=by unfold advV;rw [if_neg (by omega),if_neg (by omega)]
   refine zg9 ?_
   rw [hV]
   exact ret1 rfl (.pure rfl)
end Go.Proofs.YtgfbghoihhnahaaGreat
end
section
set_option linter.unusedVariables false
set_option linter.unusedSimpArgs false
set_option maxHeartbeats 8000000
set_option maxRecDepth 100000
attribute [local irreducible] Go.Lg.opsL Go.Lg.wpL Go.Lg.thenL Go.Lg.blockL
namespace Go.Proofs.YtgfbghoihhnahaaGreat
open Go.Lg
section
variable {P:Program} {H:Heap} {ρ:Operand→LV} {T E:TypeId}
theorem bdW {o1:Operand} {r:Rat} [z:ZI P T (.agg [.agg [ratL 0,ratL 0,ratL 0],ratL 0])] [s:SI P T [(9,true),(3,true)]] (h1:ρ o1=ratL r) :
  OpP P H ρ (.build T #[(1,o1)]) (poL ⟨⟨0,0,0⟩,r⟩):=by
 have:=OpP.bd (H:=H) (ρ:=ρ) (ps:=#[(1,o1)]) (z:=z) (s:=s) (by simp [lay,LV.csize,csizes,ratE.csize,ratE.isAgg,isAgg_agg]) (by
  intro q hq
  simp only [List.mem_cons,List.not_mem_nil,or_false] at hq
  subst hq
  exact⟨_,rfl,by rw [h1];simp [lay,ratE.csize,ratE.isAgg],by rw [h1];exact LV.pure_ne_any (ratE.pure _),by rw [h1];exact LV.pure_ne_tup (ratE.pure _)⟩)
 simp only [buildL,List.map,List.foldl,List.set,h1] at this
 exact this
theorem bdP1 {o0:Operand} {a:Rat} [u:UN P T (.array 3 E)] [t:TI P E 3 true] [z:ZI P T (.agg [ratL 0,ratL 0,ratL 0])] (h0:ρ o0=ratL a):OpP P H ρ (.build T #[(0,o0)]) (ptL ⟨a,0,0⟩):=by
 have:=OpP.bda (H:=H) (ρ:=ρ) (ps:=#[(0,o0)]) (u:=u) (t:=t) (z:=z) (by simp [lay,ratE.csize,ratE.isAgg]) (by
  intro q hq
  simp only [List.mem_cons,List.not_mem_nil,or_false] at hq
  subst hq
  exact⟨_,rfl,by rw [h0];simp [lay,ratE.csize,ratE.isAgg],by rw [h0];exact LV.pure_ne_any (ratE.pure _),by rw [h0];exact LV.pure_ne_tup (ratE.pure _)⟩)
 simp only [buildL,List.map,List.foldl,List.set,h0] at this
 exact this
theorem bdP2 {o0 o1:Operand} {a b:Rat} [u:UN P T (.array 3 E)] [t:TI P E 3 true] [z:ZI P T (.agg [ratL 0,ratL 0,ratL 0])] (h0:ρ o0=ratL a) (h1:ρ o1=ratL b):OpP P H ρ (.build T #[(0,o0),(1,o1)]) (ptL ⟨a,b,0⟩):=by
 have:=OpP.bda (H:=H) (ρ:=ρ) (ps:=#[(0,o0),(1,o1)]) (u:=u) (t:=t) (z:=z) (by simp [lay,ratE.csize,ratE.isAgg]) (by
  intro q hq
  simp only [List.mem_cons,List.not_mem_nil,or_false] at hq
  rcases hq with rfl | rfl
  ·exact⟨_,rfl,by rw [h0];simp [lay,ratE.csize,ratE.isAgg],by rw [h0];exact LV.pure_ne_any (ratE.pure _),by rw [h0];exact LV.pure_ne_tup (ratE.pure _)⟩
  ·exact⟨_,rfl,by rw [h1];simp [lay,ratE.csize,ratE.isAgg],by rw [h1];exact LV.pure_ne_any (ratE.pure _),by rw [h1];exact LV.pure_ne_tup (ratE.pure _)⟩)
 simp only [buildL,List.map,List.foldl,List.set,h0,h1] at this
 exact this
end
def paK:List Rat:=[0,0,0,1,1,1]
def paP:List PoR:=[⟨⟨0,0,0⟩,1⟩,⟨⟨1,1,0⟩,1⟩,⟨⟨2,0,0⟩,1⟩]
theorem paK_eq:kn0 2 0=paK:=by decide +kernel
theorem pa_ok:cvF paP 2:=⟨rfl,by decide,by decide,fun q hq=>by
 simp only [paP,List.mem_cons,List.not_mem_nil,or_false] at hq
 rcases hq with rfl | rfl | rfl<;>exact⟨⟨by decide +kernel,by decide +kernel,by decide +kernel⟩,by decide +kernel,by decide +kernel⟩⟩
theorem pa_kn:kOK paK 2:=paK_eq ▸ kn0_ok (by decide) (by decide) (by decide +kernel) (by decide +kernel)
theorem pa_chd:chdP paP=1:=by decide +kernel
theorem pa_adv0:advV (bndP (smA paP ⟨1,0,0⟩))=1:=by decide +kernel
theorem pa_adv1:advV (bndP (smA paP ⟨0,1,0⟩))=2:=by decide +kernel
theorem pa_tan:tanV paP (0-0)=⟨2,2,0⟩:=by
 have h1:(tanV paP (0-0)).x=2:=by decide +kernel
 have h2:(tanV paP (0-0)).y=2:=by decide +kernel
 have h3:(tanV paP (0-0)).z=0:=by decide +kernel
 generalize tanV paP (0-0)=v at *
 obtain⟨a,b,c⟩:=v
 simp only at h1 h2 h3
 rw [h1,h2,h3]
theorem c_tx1:CallP Tryz.prog 97 [ratL 1] (.v (.string ⟨#[49]⟩)):=by
 have:=c_FText 1 (by decide +kernel) (by decide +kernel) (by decide +kernel)
 exact this
theorem c_tx2:CallP Tryz.prog 97 [ratL 2] (.v (.string ⟨#[50]⟩)):=by
 have:=c_FText 2 (by decide +kernel) (by decide +kernel) (by decide +kernel)
 exact this
namespace H_c_parab
theorem zSm {p q:Prop} (k:q) (e:p=q:=by simp only [e1,e2,e3,e4,p1,p2,p3,q1,q2,q3,l1,t0,t1,r1,r2,r3,r4,Nat.zero_add,Nat.reduceMul,Nat.reduceAdd,b1,b2,b3,b4,b5,b6,i1,i2,i3,i4,i5,i6,Nat.reduceBEq,List.set_cons_zero,List.set_cons_succ,Nat.reduceEqDiff,reduceIte,if_true,if_false,ptL_kill,poL_kill,kills_map ptE,kills_map poE,kills_map ratE,ratL_kill,spL_kill,LV.kill,kills];exact rfl):p:=e.mpr k
end H_c_parab
open H_c_parab in
theorem c_parab :CallP Tryz.prog 96 [] (.agg [nI64 2,.list 3 (paK.map ratL),.list 12 (paP.map poL)]):=by
 have h1:CallP Tryz.prog 136 [iL 1] (ratL 1):=c_FInt 1 (by decide) (by decide)
 have h2:CallP Tryz.prog 136 [iL 2] (ratL 2):=c_FInt 2 (by decide) (by decide)
 refine fnP Tryz.func96 (ht:=(fun g=>LV.ren_pure g _ (by simp [LV.pure,pures,pures_map ratE,pures_map poE]))) ?_
 refine zg7 ?_
 refine cp am1 (h1) ?_
 refine cp am1 (h2) ?_
 refine zg8 ?_
 refine st_pure rfl (.build0 SL29 Z29a) ?_
 refine st_pure rfl (.build0 SL29 Z29a) ?_
 refine st_pure rfl (.build0 SL29 Z29a) ?_
 refine zg3 ?_
 refine st_alloc rfl rfl (lit6 (a0:=0) (a1:=0) (a2:=0) (a3:=1) (a4:=1) (a5:=1) ratE Tryz.underlying33 (ratL_zero ▸ Z29a) T29 rfl rfl rfl rfl rfl rfl (by decide) (by decide)) ?_
 refine zg1 ?_
 refine s0bd (bdW rfl) ?_
 refine zg2 ?_
 refine s0bd (bdP2 rfl rfl) ?_
 refine zg1 ?_
 refine s0bd (bdPo (p:=⟨1,1,0⟩) (r:=1) rfl rfl) ?_
 refine zg1 ?_
 refine s0bd (bdP1 rfl) ?_
 refine zg1 ?_
 refine s0bd (bdPo (p:=⟨2,0,0⟩) (r:=1) rfl rfl) ?_
 refine st_alloc rfl rfl (.lit3 (a:=⟨⟨0,0,0⟩,1⟩) (b:=⟨⟨1,1,0⟩,1⟩) (c:=⟨⟨2,0,0⟩,1⟩) (z:=⟨⟨0,0,0⟩,0⟩) poE Tryz.underlying34 (show ZeroOK _ _ (poL ⟨⟨0,0,0⟩,0⟩) from Z100) T100 rfl rfl rfl (by decide) (by decide)) ?_
 refine zg5 ?_
 exact retC [11,23] rfl rfl rfl cs (at_all cs rfl) T36 (.agg (.cons (.pure rfl) (.cons (imm_refm (l:=paK) ratE rfl rfl rfl) (.cons (imm_refm (l:=paP) poE rfl rfl rfl) .nil))))
namespace H_c_Unit0
theorem zSm {p q:Prop} (k:q) (e:p=q:=by simp only [e1,e2,e3,e4,p1,p2,p3,q1,q2,q3,l1,t0,t1,r1,r2,r3,r4,Nat.zero_add,Nat.reduceMul,Nat.reduceAdd,b1,b2,b3,b4,b5,b6,i1,i2,i3,i4,i5,i6,Nat.reduceBEq,List.set_cons_zero,List.set_cons_succ,Nat.reduceEqDiff,reduceIte,if_true,if_false,ptL_kill,poL_kill,kills_map ptE,kills_map poE,kills_map ratE,ratL_kill,spL_kill,LV.kill,kills];exact rfl):p:=e.mpr k
end H_c_Unit0
open H_c_Unit0 in
theorem c_Unit0 :CallP Tryz.prog 98 [iL 0] (ptL ⟨1,0,0⟩):=by
 have h1:CallP Tryz.prog 136 [iL 1] (ratL 1):=c_FInt 1 (by decide) (by decide)
 refine fnP Tryz.func98 (ht:=(fun r=>LV.ren_pure r _ (ptE.pure _))) ?_
 refine zg13 ?_
 refine cp am1 (h1) ?_
 refine zg11 ?_
 exact retC [] rfl rfl rfl cs (at_all cs rfl) T31 (.pure pu)
namespace H_c_Unit1
theorem zSm {p q:Prop} (k:q) (e:p=q:=by simp only [e1,e2,e3,e4,p1,p2,p3,q1,q2,q3,l1,t0,t1,r1,r2,r3,r4,Nat.zero_add,Nat.reduceMul,Nat.reduceAdd,b1,b2,b3,b4,b5,b6,i1,i2,i3,i4,i5,i6,Nat.reduceBEq,List.set_cons_zero,List.set_cons_succ,Nat.reduceEqDiff,reduceIte,if_true,if_false,ptL_kill,poL_kill,kills_map ptE,kills_map poE,kills_map ratE,ratL_kill,spL_kill,LV.kill,kills];exact rfl):p:=e.mpr k
end H_c_Unit1
open H_c_Unit1 in
theorem c_Unit1 :CallP Tryz.prog 98 [iL 1] (ptL ⟨0,1,0⟩):=by
 have h1:CallP Tryz.prog 136 [iL 1] (ratL 1):=c_FInt 1 (by decide) (by decide)
 refine fnP Tryz.func98 (ht:=(fun r=>LV.ren_pure r _ (ptE.pure _))) ?_
 refine zg13 ?_
 refine cp am1 (h1) ?_
 refine zg11 ?_
 exact retC [] rfl rfl rfl cs (at_all cs rfl) T31 (.pure pu)
namespace H_c_awake11
theorem zSm {p q:Prop} (k:q) (e:p=q:=by simp only [e1,e2,e3,e4,p1,p2,p3,q1,q2,q3,l1,t0,t1,r1,r2,r3,r4,Nat.zero_add,Nat.reduceMul,Nat.reduceAdd,b1,b2,b3,b4,b5,b6,i1,i2,i3,i4,i5,i6,Nat.reduceBEq,List.set_cons_zero,List.set_cons_succ,Nat.reduceEqDiff,reduceIte,if_true,if_false,ptL_kill,poL_kill,kills_map ptE,kills_map poE,kills_map ratE,ratL_kill,spL_kill,LV.kill,kills];exact rfl):p:=e.mpr k
end H_c_awake11
open H_c_awake11 in
theorem c_awake11 :CallP Tryz.prog 15 [] (bL true):=by
 have hcp:LV.pure (.agg [nI64 2,.list 3 (paK.map ratL),.list 12 (paP.map poL)])=true:=by simp [LV.pure,pures,pures_map ratE,pures_map poE]
 have hT:CallP Tryz.prog 31 [.agg [nI64 2,.list 3 (paK.map ratL),.list 12 (paP.map poL)],ratL 0] (.tup [ptL ⟨2,2,0⟩,iL 0]):=by
  have:=c_Tan 2 0 paP (by decide) (by decide +kernel) (by decide) 0 (by decide +kernel) (by decide +kernel) pa_ok (by decide)
  rwa [pa_tan,paK_eq] at this
 have hC:CallP Tryz.prog 20 [.agg [nI64 2,.list 3 (paK.map ratL),.list 12 (paP.map poL)]] (ratL 1):=by
  have:=c_Chord 2 paK paP pa_ok
  rwa [pa_chd] at this
 have hA0:CallP Tryz.prog 22 [.agg [nI64 2,.list 3 (paK.map ratL),.list 12 (paP.map poL)],ptL ⟨1,0,0⟩] (iL 1):=by
  have:=c_Adv 2 paK paP pa_ok ⟨1,0,0⟩ ⟨by decide +kernel,by decide +kernel,by decide +kernel⟩
  rwa [pa_adv0] at this
 have hA1:CallP Tryz.prog 22 [.agg [nI64 2,.list 3 (paK.map ratL),.list 12 (paP.map poL)],ptL ⟨0,1,0⟩] (iL 2):=by
  have:=c_Adv 2 paK paP pa_ok ⟨0,1,0⟩ ⟨by decide +kernel,by decide +kernel,by decide +kernel⟩
  rwa [pa_adv1] at this
 have hB:CallP Tryz.prog 57 [.agg [nI64 2,.list 3 (paK.map ratL),.list 12 (paP.map poL)]] (iL 0):=c_BzCheck 2 paK paP pa_ok pa_kn rfl
 refine fnP Tryz.func15 ?_
 refine zg7 ?_
 refine cp am0 (c_parab) ?_
 refine zg7 ?_
 refine st_pure rfl (.build0 SL29 Z29a) ?_
 refine cp am2 (hT) ?_
 refine zg9 ?_
 refine wl_regD 38 (by decide +kernel) ?_
 refine zg1 ?_
 refine cp am1 (hB) ?_
 refine zg2 ?_
 refine st_pure (guardX (v:=true) rfl rfl ((by decide +kernel)) rfl) ldA ?_
 refine st_callP (guardX (v:=true) rfl rfl ((by decide +kernel)) rfl) (.cons im0 .nil) (hC) ?_
 refine st_callP (guardX (v:=true) rfl rfl ((by decide +kernel)) rfl) (.cons im0 .nil) (c_tx1) ?_
 refine st_pure (guardX (v:=true) rfl rfl ((by decide +kernel)) rfl) (.eqS rfl rfl) ?_
 refine st_pure rfl (.pickT rfl ((by decide +kernel))) ?_
 refine zg1 ?_
 refine st_pure (guardX (v:=true) rfl rfl ((by decide +kernel)) rfl) ldA ?_
 refine st_callP (guardX (v:=true) rfl rfl ((by decide +kernel)) rfl) (.cons im0 .nil) (c_Unit0) ?_
 refine st_callP (guardX (v:=true) rfl rfl ((by decide +kernel)) rfl) (.cons im0 (.cons im0 .nil)) (hA0) ?_
 refine st_pure (guardX (v:=true) rfl rfl ((by decide +kernel)) rfl) (.bin rfl rfl rfl) ?_
 refine st_pure rfl (.pickT rfl ((by decide +kernel))) ?_
 refine zg1 ?_
 refine st_pure (guardX (v:=true) rfl rfl ((by decide +kernel)) rfl) ldA ?_
 refine st_callP (guardX (v:=true) rfl rfl ((by decide +kernel)) rfl) (.cons im0 .nil) (c_Unit1) ?_
 refine st_callP (guardX (v:=true) rfl rfl ((by decide +kernel)) rfl) (.cons im0 (.cons im0 .nil)) (hA1) ?_
 refine st_pure (guardX (v:=true) rfl rfl ((by decide +kernel)) rfl) (.bin rfl rfl rfl) ?_
 refine st_pure rfl (.pickT rfl ((by decide +kernel))) ?_
 refine zg1 ?_
 refine st_pure (guardX (v:=true) rfl rfl ((by decide +kernel)) rfl) (.move _) ?_
 refine st_pure (guardX (v:=true) rfl rfl ((by decide +kernel)) rfl) (.bin rfl rfl rfl) ?_
 refine st_pure rfl (.pickT rfl ((by decide +kernel))) ?_
 refine zg1 ?_
 refine st_pure (guardX (v:=true) rfl rfl ((by decide +kernel)) rfl) ixA ?_
 refine st_pure (guardX (v:=true) rfl rfl ((by decide +kernel)) rfl) ldA ?_
 refine st_callP (guardX (v:=true) rfl rfl ((by decide +kernel)) rfl) (.cons im0 .nil) (c_tx2) ?_
 refine st_pure (guardX (v:=true) rfl rfl ((by decide +kernel)) rfl) (.eqS rfl rfl) ?_
 refine st_pure rfl (.pickT rfl ((by decide +kernel))) ?_
 refine zg1 ?_
 refine st_pure (guardX (v:=true) rfl rfl ((by decide +kernel)) rfl) ixA ?_
 refine st_pure (guardX (v:=true) rfl rfl ((by decide +kernel)) rfl) ldA ?_
 refine st_callP (guardX (v:=true) rfl rfl ((by decide +kernel)) rfl) (.cons im0 .nil) (c_tx2) ?_
 refine st_pure (guardX (v:=true) rfl rfl ((by decide +kernel)) rfl) (.eqS rfl rfl) ?_
 refine st_pure rfl (.pickT rfl ((by decide +kernel))) ?_
 refine zg4 ?_
 refine ret1 (x:=bL ((⟨#[50]⟩:ByteArray).toList==(⟨#[50]⟩:ByteArray).toList)) rfl ?_
 have hbb:((⟨#[50]⟩:ByteArray).toList==(⟨#[50]⟩:ByteArray).toList)=true:=beq_self_eq_true _
 rw [hbb]
 exact .pure rfl
end Go.Proofs.YtgfbghoihhnahaaGreat
end
section
set_option linter.unusedVariables false
set_option linter.unusedSimpArgs false
set_option maxHeartbeats 8000000
set_option maxRecDepth 100000
attribute [local irreducible] Go.Lg.opsL Go.Lg.wpL Go.Lg.thenL Go.Lg.blockL
namespace Go.Proofs.YtgfbghoihhnahaaGreat
open Go.Lg
section
variable {po:List PoR} {d:Nat} (h:cvF po d)
include h
end
def wiV (s:Rat × Rat) (n:Int):Rat:=s.1+ptV n*(s.2-s.1)
theorem wi_one (T:Rat) (n:Int):wiV (T,T+1) n=T+ptV n:=by show T+ptV n*(T+1-T)=_;rw [wid1,Rat.mul_one]
theorem wi_rl {T:Rat} (h:rl T≤1) (n:Int):rl (T+ptV n)≤3:=by
 have:=rl_add T (ptV n)
 have:=ptV_rl n
 omega
namespace H_c_Within
theorem zSm {p q:Prop} (k:q) (e:p=q:=by simp only [e1,e2,e3,e4,p1,p2,p3,q1,q2,q3,l1,t0,t1,r1,r2,r3,r4,Nat.zero_add,Nat.reduceMul,Nat.reduceAdd,b1,b2,b3,b4,b5,b6,i1,i2,i3,i4,i5,i6,Nat.reduceBEq,List.set_cons_zero,List.set_cons_succ,Nat.reduceEqDiff,reduceIte,if_true,if_false,ptL_kill,poL_kill,kills_map ptE,kills_map poE,kills_map ratE,ratL_kill,spL_kill,LV.kill,kills];exact rfl):p:=e.mpr k
end H_c_Within
open H_c_Within in
theorem c_Within (s:Rat × Rat) (n:Int) (R:Nat) (hR:R≤1000000) (hs:bdS R s) (hn:-9223372036854775808≤n∧n≤9223372036854775807):CallP Tryz.prog 25 [spL s,iL n] (ratL (wiV s n)):=by
 obtain⟨a1,a2⟩:=hs
 have hp:=ptV_rl n
 have m1:=rl_sub s.2 s.1
 have m2:=rl_mul (ptV n) (s.2-s.1)
 refine fnP Tryz.func25 ?_
 refine zg7 ?_
 refine wl_regD 11 (by decide +kernel) ?_
 refine zg3 ?_
 refine cp am1 (c_MPart n hn) ?_
 refine zg4 ?_
 refine cp am2 (c_FRSub s.2 s.1 (by omega)) ?_
 refine cp am2 (c_FRMul (ptV n) (s.2-s.1) (by omega)) ?_
 refine cp am2 (c_FRAdd s.1 (ptV n*(s.2-s.1)) (by omega)) ?_
 refine zg4 ?_
 exact retC [] rfl rfl rfl (ratE.csize _) (ratL_all _) T29 (.pure (ratE.pure _))
namespace H_c_Fown
theorem zSm {p q:Prop} (k:q) (e:p=q:=by simp only [e1,e2,e3,e4,p1,p2,p3,q1,q2,q3,l1,t0,t1,r1,r2,r3,r4,Nat.zero_add,Nat.reduceMul,Nat.reduceAdd,b1,b2,b3,b4,b5,b6,i1,i2,i3,i4,i5,i6,Nat.reduceBEq,List.set_cons_zero,List.set_cons_succ,Nat.reduceEqDiff,reduceIte,if_true,if_false,ptL_kill,poL_kill,kills_map ptE,kills_map poE,kills_map ratE,ratL_kill,spL_kill,LV.kill,kills];exact rfl):p:=e.mpr k
end H_c_Fown
open H_c_Fown in
theorem c_Fown (d:Nat) (T:Rat) (po:List PoR) (hT:rl T≤1) (hT1:rl (T+1)≤1) (h9:d≤6) (t:Rat) (ht:rl t≤1000):CallP Tryz.prog 138 [.agg [nI64 d,.list 3 ((kn0 d T).map ratL),.list 12 (po.map poL)],ratL t] (ratL (t-T)):=by
 have hpu:∀ l:List Rat,pures (l.map ratL)=true:=fun l=>pures_map ratE l
 have hkl:=kn0_len d T
 have hlo:=knB_lo d T
 have hhi:=knB_hi d T
 have hcp:LV.pure (.agg [nI64 d,.list 3 ((kn0 d T).map ratL),.list 12 (po.map poL)])=true:=by simp [LV.pure,pures,pures_map ratE,pures_map poE]
 have hr1:rl 1=1:=rfl
 have hz1:=rl_sub t T
 have hFW:CallP Tryz.prog 38 [spL (T,T+1)] (ratL 1):=by
  have:=c_FWidth (T,T+1) (by show rl (T+1)+rl T≤_;omega)
  simp only [wid1] at this
  exact this
 have hFO:CallP Tryz.prog 37 [ratL (t-T),ratL 1] (ratL (t-T)):=by
  have:=c_FOver (t-T) 1 (by omega)
  rwa [div1] at this
 have hFH:CallP Tryz.prog 53 [spL (T,T+1),ratL t] (bL (hasR (T,T+1) t)):=c_FHas (T,T+1) t (by show rl T+rl t≤_;omega) (by show rl t+rl (T+1)≤_;omega)
 have hFD:=c_FDom d T po hT hT1 h9
 refine fnP Tryz.func138 ?_
 refine zg10 ?_
 refine cp am1 (hFD) ?_
 refine zg5 ?_
 refine wl_regD 7 (by decide +kernel) ?_
 refine zg3 ?_
 refine cp am2 (c_FRSub t T (by omega)) ?_
 refine zg1 ?_
 refine cp am1 (hFW) ?_
 refine cp am2 (hFO) ?_
 refine zg4 ?_
 exact retC [] rfl rfl rfl (ratE.csize _) (ratL_all _) T29 (.pure (ratE.pure _))
namespace H_c_ownE
theorem zSm {p q:Prop} (k:q) (e:p=q:=by simp only [e1,e2,e3,e4,p1,p2,p3,q1,q2,q3,l1,t0,t1,r1,r2,r3,r4,Nat.zero_add,Nat.reduceMul,Nat.reduceAdd,b1,b2,b3,b4,b5,b6,i1,i2,i3,i4,i5,i6,Nat.reduceBEq,List.set_cons_zero,List.set_cons_succ,Nat.reduceEqDiff,reduceIte,if_true,if_false,ptL_kill,poL_kill,kills_map ptE,kills_map poE,kills_map ratE,ratL_kill,spL_kill,LV.kill,kills];exact rfl):p:=e.mpr k
end H_c_ownE
open H_c_ownE in
theorem c_ownE (d:Nat) (T:Rat) (po:List PoR) (hT:rl T≤1) (hT1:rl (T+1)≤1) (h9:d≤6) (t:Rat) (ht:rl t≤1000) (hin:hasR (T,T+1) t=false) (hp0:0<po.length):CallP Tryz.prog 123 [.agg [nI64 d,.list 3 ((kn0 d T).map ratL),.list 12 (po.map poL)],ratL t] (.tup [ratL 0,ratL 0,bL false]):=by
 have hpu:∀ l:List Rat,pures (l.map ratL)=true:=fun l=>pures_map ratE l
 have hkl:=kn0_len d T
 have hlo:=knB_lo d T
 have hhi:=knB_hi d T
 have hcp:LV.pure (.agg [nI64 d,.list 3 ((kn0 d T).map ratL),.list 12 (po.map poL)])=true:=by simp [LV.pure,pures,pures_map ratE,pures_map poE]
 have hr1:rl 1=1:=rfl
 have hz1:=rl_sub t T
 have hD:=c_Dom d T po hT hT1 h9
 have hH:CallP Tryz.prog 216 [spL (T,T+1),ratL t] (bL false):=by
  have:=c_SHas (T,T+1) t (by show rl T+rl t≤_;omega) (by show rl t+rl (T+1)≤_;omega)
  rwa [hin] at this
 refine fnP Tryz.func123 (ht:=(tame3 (ratE.pure _) (ratE.pure _) rfl)) ?_
 refine zg12 ?_
 refine cp am1 (hD) ?_
 refine zg12 ?_
 refine op_if 15 rfl (fun h15r h15=>?_) (fun h15r h15=>?_)
 ·omega
 ·refine zg2 ?_
  refine cp am2 (hH) ?_
  refine zg4 ?_
  refine wl_if rfl (fun h20r h20=>?_) (fun h20r h20=>?_)
  ·refine zg2 ?_
   refine st_pure rfl (.build0 SL29 Z29a) ?_
   refine st_pure rfl (.build0 SL29 Z29a) ?_
   refine zg7 ?_
   exact retCCT [] rfl rfl rfl (ratE.csize _) (ratL_all _) T29 (.pure (ratE.pure _)) rfl rfl (ratE.csize _) (ratL_all _) T29 (.pure (ratE.pure _)) rfl (.pure rfl)
  ·first | exact absurd h20r (by decide) | cases h20r
end Go.Proofs.YtgfbghoihhnahaaGreat
end
section
set_option linter.unusedVariables false
set_option linter.unusedSimpArgs false
set_option maxHeartbeats 8000000
set_option maxRecDepth 100000
attribute [local irreducible] Go.Lg.opsL Go.Lg.wpL Go.Lg.thenL Go.Lg.blockL
namespace Go.Proofs.YtgfbghoihhnahaaGreat
open Go.Lg
theorem wt_get {po:List PoR} {i:Nat} (h:i<po.length):(wtP po).getD i 0=(po.getD i default).w:=by
 unfold wtP
 rw [List.getD_eq_getElem?_getD,List.getElem?_map,List.getElem?_eq_getElem h,List.getD_eq_getElem?_getD,List.getElem?_eq_getElem h];rfl
theorem subNN {a b c:Nat} (h:a=b+c) (h2:a≤9223372036854775807):binI .sub .i64 (a:Nat) (b:Nat)=some (.int .i64 ((c:Nat):Int)):=by
 rw [sub64 (by omega) (by omega)];congr 2;omega
end Go.Proofs.YtgfbghoihhnahaaGreat
end
section
set_option linter.unusedVariables false
set_option linter.unusedSimpArgs false
set_option maxHeartbeats 8000000
set_option maxRecDepth 100000
attribute [local irreducible] Go.Lg.opsL Go.Lg.wpL Go.Lg.thenL Go.Lg.blockL
namespace Go.Proofs.YtgfbghoihhnahaaGreat
open Go.Lg
def bxN (l:List V3) (k:Nat):Nat→Rat × Rat
 | 0=>((l.getD 0 default).at k,(l.getD 0 default).at k)
 | j+1=>hulP (bxN l k j) ((l.getD (j+1) default).at k,(l.getD (j+1) default).at k)
def bxP (l:List V3):Bx3:=⟨bxN l 0 (l.length-1),bxN l 1 (l.length-1),bxN l 2 (l.length-1)⟩
theorem bxN_bd {l:List V3} {R:Nat} (h:∀ i,i<l.length→bd3 R (l.getD i default)) (k:Nat):∀ n,n<l.length→bdS R (bxN l k n)
 | 0,hn=>⟨at_rl (h 0 hn) k,at_rl (h 0 hn) k⟩
 | n+1,hn=>hul_bd (bxN_bd h k n (by omega)) ⟨at_rl (h _ hn) k,at_rl (h _ hn) k⟩
section
variable {po:List PoR} {d:Nat} (h:cvF po d)
include h
end
section
variable {po:List PoR} {d:Nat} (h:cvF po d)
include h
end
end Go.Proofs.YtgfbghoihhnahaaGreat
end
section
set_option linter.unusedVariables false
set_option linter.unusedSimpArgs false
set_option maxHeartbeats 8000000
set_option maxRecDepth 100000
attribute [local irreducible] Go.Lg.opsL Go.Lg.wpL Go.Lg.thenL Go.Lg.blockL
namespace Go.Proofs.YtgfbghoihhnahaaGreat
open Go.Lg
namespace H_c_FDrop
theorem zSm {p q:Prop} (k:q) (e:p=q:=by simp only [e1,e2,e3,e4,p1,p2,p3,q1,q2,q3,l1,t0,t1,r1,r2,r3,r4,Nat.zero_add,Nat.reduceMul,Nat.reduceAdd,b1,b2,b3,b4,b5,b6,i1,i2,i3,i4,i5,i6,Nat.reduceBEq,List.set_cons_zero,List.set_cons_succ,Nat.reduceEqDiff,reduceIte,if_true,if_false,ptL_kill,poL_kill,kills_map ptE,kills_map poE,kills_map ratE,ratL_kill,spL_kill,LV.kill,kills];exact rfl):p:=e.mpr k
end H_c_FDrop
open H_c_FDrop in
theorem c_FDrop (a b c w:Rat) (R:Nat) (hR:R≤100000000) (ha:rl a≤R) (hb:rl b≤R) (hc:rl c≤R) (hw:rl w≤R):CallP Tryz.prog 121 [.agg [ratL a,ratL b,ratL c,ratL w]] (poL ⟨v3m (1/w) ⟨a,b,c⟩,w⟩):=by
 have h1c:CallP Tryz.prog 136 [iL 1] (ratL 1):=c_FInt 1 (by decide) (by decide)
 have hr1:rl 1=1:=rfl
 have hq:=rl_div 1 w
 refine fnP Tryz.func121 (ht:=(fun g=>LV.ren_pure g _ (poE.pure _))) ?_
 refine zg7 ?_
 refine wl_regD 15 (by decide +kernel) ?_
 simp only [List.getD_cons_zero]
 refine cp am1 (h1c) ?_
 refine zg2 ?_
 refine cp am2 (c_FOver 1 w (by omega)) ?_
 refine zg7 ?_
 refine cp am2 (c_FVScale (1/w) ⟨a,b,c⟩ (R+1) (by omega) (by omega) ⟨by show rl a≤_;omega,by show rl b≤_;omega,by show rl c≤_;omega⟩) ?_
 refine zg2 ?_
 refine s0bd (bdPo rfl rfl) ?_
 refine zg4 ?_
 exact retC [] rfl rfl rfl cs (at_all cs rfl) T100 (.pure pu)
end Go.Proofs.YtgfbghoihhnahaaGreat
end
section
set_option linter.unusedVariables false
set_option linter.unusedSimpArgs false
set_option maxHeartbeats 8000000
set_option maxRecDepth 100000
attribute [local irreducible] Go.Lg.opsL Go.Lg.wpL Go.Lg.thenL Go.Lg.blockL
namespace Go.Proofs.YtgfbghoihhnahaaGreat
open Go.Lg
theorem fE_rl {a b:Rat}:∀ (n:Nat) (c:Nat→Rat) (R:Nat),(∀ i,rl (c i)≤R)→rl (fE a b n c)≤(R+(rl a+rl b+1))*2 ^ n
 | 0,c,R,h=>by
  have:=h 0
  show rl (c 0)≤_
  omega
 | n+1,c,R,h=>by
  have:=fE_rl (a:=a) (b:=b) n (fun i=>a*c i+b*c (i+1)) (2*R+(rl a+rl b+1)) (fun i=>by
   have h0:=h i
   have h1:=h (i+1)
   have m0:=rl_mul a (c i)
   have m1:=rl_mul b (c (i+1))
   have s0:=rl_add (a*c i) (b*c (i+1))
   omega)
  rw [fE]
  refine Nat.le_trans this ?_
  rw [Nat.pow_succ,Nat.mul_comm (2 ^ n) 2,←Nat.mul_assoc]
  exact Nat.mul_le_mul_right _ (by omega)
theorem wi_in (T:Rat) (n:Int):T≤T+ptV n∧T+ptV n≤T+1:=by
 have:=ptV_in n
 constructor<;>grind
theorem has_in {T t:Rat} (h1:T≤t) (h2:t≤T+1):hasR (T,T+1) t=true:=by
 unfold hasR
 rw [decide_eq_true h1,decide_eq_true h2];rfl
theorem fz0 (bs:List Nat):frzH bs []=[]:=rfl
end Go.Proofs.YtgfbghoihhnahaaGreat
end
section
set_option linter.unusedVariables false
set_option linter.unusedSimpArgs false
set_option maxHeartbeats 8000000
set_option maxRecDepth 100000
attribute [local irreducible] Go.Lg.opsL Go.Lg.wpL Go.Lg.thenL Go.Lg.blockL
namespace Go.Proofs.YtgfbghoihhnahaaGreat
open Go.Lg
def sS (t:Rat) (f:Nat→Rat):Nat→Rat:=fun i=>(1-t)*f i+t*f (i+1)
def sI (t:Rat):Nat→(Nat→Rat)→(Nat→Rat)
 | 0,f=>f
 | n+1,f=>sI t n (sS t f)
theorem sS_comm (s t:Rat) (f:Nat→Rat):sS s (sS t f)=sS t (sS s f):=by
 funext i;unfold sS;grind
theorem sI_S (t s:Rat):∀ (n:Nat) (f:Nat→Rat),sI t n (sS s f)=sS s (sI t n f)
 | 0,f=>rfl
 | n+1,f=>by rw [sI,sI,sS_comm,sI_S t s n]
theorem sI_succ (t:Rat) (n:Nat) (f:Nat→Rat):sI t (n+1) f=sS t (sI t n f):=by rw [sI,sI_S]
theorem sI_lin (t c d:Rat):∀ (n:Nat) (f g:Nat→Rat),sI t n (fun i=>c*f i+d*g i)=fun i=>c*sI t n f i+d*sI t n g i
 | 0,f,g=>rfl
 | n+1,f,g=>by
  rw [sI,sI,sI,←sI_lin t c d n]
  congr 1;funext i;unfold sS;grind
theorem sI_fE (t:Rat):∀ (n:Nat) (f:Nat→Rat) (i:Nat),sI t n f i=fE (1-t) t n (fun m=>f (i+m))
 | 0,f,i=>rfl
 | n+1,f,i=>by rw [sI,sI_fE t n,fE];rfl
def pcV (a b:Rat) (n:Nat) (f:Nat→Rat) (j:Nat):Rat:=sI a (n-j) (sI b j f) 0
theorem part_pc {p:List Rat} {a b:Rat} (ha:a≠1) {j:Nat} (hj:j<p.length):(partF p a b).getD j 0=pcV a b (p.length-1) (fun i=>p.getD i 0) j:=by
 have hne:(1:Rat)-a≠0:=by grind
 have hq:(b-a)/(1-a)*(1-a)=b-a:=Rat.div_mul_cancel hne
 unfold partF
 rw [if_neg ha,lo_get (by rw [hiP_len];exact hj)]
 generalize (b-a)/(1-a)=s at hq
 have key:∀ (k:Nat) (i:Nat),i+k≤p.length-1→sI s k (fun i=>(hiP p a).getD i 0) i=sI a (p.length-1-i-k) (sI b k (fun m=>p.getD (i+m) 0)) 0:=by
  intro k
  induction k with
  | zero =>
   intro i hi
   show (hiP p a).getD i 0=_
   rw [hi_get (by omega),sI_fE,Nat.sub_zero]
   exact fE_congr _ _ _ _ _ fun m _=>by rw [Nat.zero_add];rfl
  | succ k ih =>
   intro i hi
   rw [sI_succ]
   unfold sS
   rw [ih i (by omega),ih (i+1) (by omega)]
   obtain⟨m,hm⟩:∃ m,p.length-1-i-k=m+1:=⟨p.length-1-i-k-1,by omega⟩
   rw [hm,show p.length-1-(i+1)-k=m by omega,show p.length-1-i-(k+1)=m by omega,sI]
   have hsh:(fun m=>p.getD (i+1+m) 0)=fun m=>(fun m=>p.getD (i+m) 0) (m+1):=by funext m;simp only;congr 1;omega
   rw [hsh]
   generalize (fun m=>p.getD (i+m) 0)=f
   rw [←sI_S]
   have e:=sI_lin a (1-s) s m (sI b k (sS a f)) (sI b k (fun m=>f (m+1)))
   have e2:=sI_lin b (1-s) s k (sS a f) (fun m=>f (m+1))
   rw [←e2] at e
   have e3:(fun i=>(1-s)*sS a f i+s*f (i+1))=sS b f:=by
    funext i;unfold sS
    have h1:(1-s)*(1-a)=1-b:=by grind
    have h2:(1-s)*a+s=b:=by grind
    rw [←h1,←h2];grind
   rw [e3] at e
   exact(congrFun e 0).symm
 have:=key j 0 (by omega)
 rw [sI_fE] at this
 simp only [Nat.zero_add,Nat.sub_zero] at this
 rw [this];rfl
structure cvR (po:List PoR) (d R:Nat):Prop where
 hl:po.length=d+1
 hd:1≤d
 h6:d≤6
 ok:∀ q∈po,okP R q
theorem cvF.r {po:List PoR} {d:Nat} (h:cvF po d):cvR po d 1:=⟨h.hl,h.hd,h.h6,h.ok⟩
def cpQ (po:List PoR) (x y:Rat) (j:Nat):PoR :=
 ⟨⟨(partF (nmP po 0) x y).getD j 0/(partF (wtP po) x y).getD j 0,(partF (nmP po 1) x y).getD j 0/(partF (wtP po) x y).getD j 0,(partF (nmP po 2) x y).getD j 0/(partF (wtP po) x y).getD j 0⟩,(partF (wtP po) x y).getD j 0⟩
def cutP (po:List PoR) (x y:Rat):List PoR:=(List.range po.length).map (cpQ po x y)
theorem cutP_len (po:List PoR) (x y:Rat):(cutP po x y).length=po.length:=by simp [cutP]
theorem cutP_get {po:List PoR} {x y:Rat} {j:Nat} (h:j<po.length):(cutP po x y).getD j default=cpQ po x y j:=by
 unfold cutP;rw [List.getD_eq_getElem?_getD,List.getElem?_eq_getElem (by simpa using h)];simp
theorem partF_len (p:List Rat) (a b:Rat):(partF p a b).length=p.length:=by rw [←part_eq,partB_len]
theorem fE_pos {a b:Rat} (ha:0≤a) (hb:0≤b) (hab:0<a+b):∀ (n:Nat) (f:Nat→Rat),(∀ i,i≤n→0<f i)→0<fE a b n f
 | 0,f,h=>h 0 (Nat.le_refl _)
 | n+1,f,h=>by
  rw [fE]
  refine fE_pos ha hb hab n _ fun i hi=>?_
  have a1:=h i (by omega)
  have a2:=h (i+1) (by omega)
  have b1:=Rat.mul_nonneg ha (Rat.le_of_lt a1)
  have b2:=Rat.mul_nonneg hb (Rat.le_of_lt a2)
  rcases Rat.le_iff_lt_or_eq.1 ha with h0 | h0
  ·have:=Rat.mul_pos h0 a1;grind
  ·have:=Rat.mul_pos (show 0<b by grind) a2;grind
theorem pc_pos {a b:Rat} (ha:0≤a) (ha1:a≤1) (hb:0≤b) (hb1:b≤1) {n j:Nat} {f:Nat→Rat} (hj:j≤n) (h:∀ i,i≤n→0<f i):0<pcV a b n f j:=by
 unfold pcV
 rw [sI_fE]
 refine fE_pos (by grind) ha (by grind) _ _ fun m hm=>?_
 rw [sI_fE]
 exact fE_pos (by grind) hb (by grind) _ _ fun m2 hm2=>h _ (by omega)
theorem pc_rl {a b:Rat} {R S:Nat} (ha:rl (1-a)+rl a+1≤S) (hb:rl (1-b)+rl b+1≤S) {n j:Nat} (hn:n≤6) (hj:j≤n) {f:Nat→Rat} (h:∀ i,rl (f i)≤R):rl (pcV a b n f j)≤((R+S)*64+S)*64:=by
 unfold pcV
 have hp:∀ k,k≤6→2 ^ k≤64:=fun k hk=>Nat.pow_le_pow_right (n:=2) (by decide) hk
 have h1:∀ m,rl (sI b j f m)≤(R+S)*64:=fun m=>by
  rw [sI_fE]
  have:=fE_rl (a:=1-b) (b:=b) j (fun i=>f (m+i)) R (fun i=>h _)
  refine Nat.le_trans this (Nat.mul_le_mul (by omega) (hp j (by omega)))
 rw [sI_fE]
 have:=fE_rl (a:=1-a) (b:=a) (n-j) (fun i=>sI b j f (0+i)) ((R+S)*64) (fun i=>h1 _)
 exact Nat.le_trans this (Nat.mul_le_mul (by omega) (hp (n-j) (by omega)))
section
variable {po:List PoR} {d R:Nat} (h:cvR po d R) {x y:Rat} (hx0:0≤x) (hx1:x<1) (hy0:0≤y) (hy1:y≤1)
include h
theorem cR_nl (k:Nat):(nmP po k).length=d+1:=by rw [nmP_len,h.hl]
theorem cR_wl:(wtP po).length=d+1:=by rw [wtP_len,h.hl]
theorem cR_w {i:Nat} (hi:i≤d):0<(wtP po).getD i 0:=by
 have hl:=h.hl
 rw [wt_get (by omega)]
 exact(h.ok _ (getD_memP (by omega))).2.2
include hx1
theorem cut_w {j:Nat} (hj:j≤d):(partF (wtP po) x y).getD j 0=pcV x y d (fun i=>(wtP po).getD i 0) j:=by
 have hw:=cR_wl h
 rw [part_pc (by grind) (by omega),hw,Nat.add_sub_cancel]
theorem cut_n (k:Nat) {j:Nat} (hj:j≤d):(partF (nmP po k) x y).getD j 0=pcV x y d (fun i=>(nmP po k).getD i 0) j:=by
 have hw:=cR_nl h k
 rw [part_pc (by grind) (by omega),hw,Nat.add_sub_cancel]
include hx0 hy0 hy1
theorem cut_pos {j:Nat} (hj:j≤d):0<(partF (wtP po) x y).getD j 0:=by
 rw [cut_w h hx1 hj]
 exact pc_pos hx0 (Rat.le_of_lt hx1) hy0 hy1 hj fun i hi=>cR_w h hi
end
theorem cut_ok {po:List PoR} {d R:Nat} (h:cvR po d R) {x y:Rat} (hx0:0≤x) (hx1:x<1) (hy0:0≤y) (hy1:y≤1) {S:Nat} (hx:rl (1-x)+rl x+1≤S) (hy:rl (1-y)+rl y+1≤S) (hR:1≤R):cvR (cutP po x y) d (2*(((2*R+S)*64+S)*64)):=by
 have hl:=h.hl
 have h6:=h.h6
 refine⟨by rw [cutP_len,hl],h.hd,h.h6,fun q hq=>?_⟩
 obtain⟨j,hj,rfl⟩:=List.mem_map.1 hq
 have hj:j<po.length:=by simpa using hj
 have hw:rl ((partF (wtP po) x y).getD j 0)≤((2*R+S)*64+S)*64:=by
  rw [cut_w h hx1 (by omega)]
  exact pc_rl hx hy h6 (by omega) fun i=>getD_rl (by omega) (fun z hz=>Nat.le_trans (wtP_rl h.ok z hz) (by omega)) i
 have hn:∀ k,rl ((partF (nmP po k) x y).getD j 0)≤((2*R+S)*64+S)*64:=fun k=>by
  rw [cut_n h hx1 k (by omega)]
  exact pc_rl hx hy h6 (by omega) fun i=>getD_rl (by omega) (nmP_rl h.ok k) i
 have hd:∀ k,rl ((partF (nmP po k) x y).getD j 0/(partF (wtP po) x y).getD j 0)≤2*(((2*R+S)*64+S)*64):=fun k=>by
  have:=rl_div ((partF (nmP po k) x y).getD j 0) ((partF (wtP po) x y).getD j 0)
  have:=hn k
  omega
 refine⟨⟨hd 0,hd 1,hd 2⟩,?_,cut_pos h hx0 hx1 hy0 hy1 (by omega)⟩
 show rl ((partF (wtP po) x y).getD j 0)≤_
 omega
end Go.Proofs.YtgfbghoihhnahaaGreat
end
section
set_option linter.unusedVariables false
set_option linter.unusedSimpArgs false
set_option maxHeartbeats 8000000
set_option maxRecDepth 100000
attribute [local irreducible] Go.Lg.opsL Go.Lg.wpL Go.Lg.thenL Go.Lg.blockL
namespace Go.Proofs.YtgfbghoihhnahaaGreat
open Go.Lg
namespace H_c_made11
theorem zSm {p q:Prop} (k:q) (e:p=q:=by simp only [e1,e2,e3,e4,p1,p2,p3,q1,q2,q3,l1,t0,t1,r1,r2,r3,r4,Nat.zero_add,Nat.reduceMul,Nat.reduceAdd,b1,b2,b3,b4,b5,b6,i1,i2,i3,i4,i5,i6,Nat.reduceBEq,List.set_cons_zero,List.set_cons_succ,Nat.reduceEqDiff,reduceIte,if_true,if_false,ptL_kill,poL_kill,kills_map ptE,kills_map poE,kills_map ratE,ratL_kill,spL_kill,LV.kill,kills,dice_kill];exact rfl):p:=e.mpr k
end H_c_made11
open H_c_made11 in
theorem c_made11 (l:List Int) (hl5:l.length≤500):CallP Tryz.prog 32 [.list 1 (l.map i64L)] (.agg [nI64 (cD l 0 5),.list 3 ((kn0 (cD l 0 5) (cT l 0)).map ratL),.list 12 ((cP l 0 5).map poL)]):=by
 have hcp:LV.pure (.agg [nI64 (cD l 0 5),.list 3 ((kn0 (cD l 0 5) (cT l 0)).map ratL),.list 12 ((cP l 0 5).map poL)])=true:=by simp [LV.pure,pures,pures_map ratE,pures_map poE]
 refine fnP Tryz.func32 (ht:=(fun g=>LV.ren_pure g _ (by simp [LV.pure,pures,pures_map ratE,pures_map poE]))) ?_
 refine zg8 ?_
 refine st_call1 [] rfl rfl (.cons im0 .nil) (c_Roll l) (dice_pure l 0) rfl ?_
 refine st_callMp 1000065 rfl rfl rfl (dice_pure l _) (.cons .ptr (.cons (.imm (.pure rfl)) (.cons (.imm (.pure rfl)) (.cons (.imm (.pure rfl)) .nil)))) .ptr (c_DCurve l 0 hl5 5 (by decide) (by decide) (Nat.zero_le _)) rfl (dice_pure l _) hcp ?_
 refine zg4 ?_
 exact retC [] rfl rfl rfl cs (at_all cs rfl) T36 (.pure hcp)
end Go.Proofs.YtgfbghoihhnahaaGreat
end
section
set_option linter.unusedVariables false
set_option linter.unusedSimpArgs false
set_option maxHeartbeats 8000000
set_option maxRecDepth 100000
attribute [local irreducible] Go.Lg.opsL Go.Lg.wpL Go.Lg.thenL Go.Lg.blockL
namespace Go.Proofs.YtgfbghoihhnahaaGreat
open Go.Lg
theorem hul_call {f:Nat} (hc:∀ s t:Rat × Rat,rl s.1+rl t.1≤34359738368→rl s.2+rl t.2≤34359738368→CallP Tryz.prog f [spL s,spL t] (spL (hulP s t))) {l:List V3} {R:Nat} (hR:R≤1000000) (hb:∀ i,i<l.length→bd3 R (l.getD i default)) (k j:Nat) (hj:j+1<l.length) :
  CallP Tryz.prog f [spL (bxN l k j),spL ((l.getD (j+1) default).at k,(l.getD (j+1) default).at k)] (spL (bxN l k (j+1))):=by
 have q:=bxN_bd hb k j (by omega)
 have g:=at_rl (hb (j+1) hj) k
 have h1:R+R≤34359738368:=by omega
 exact hc _ _ (Nat.le_trans (Nat.add_le_add q.1 g) h1) (Nat.le_trans (Nat.add_le_add q.2 g) h1)
theorem bdS3 {P:Program} {H:Heap} {ρ:Operand→LV} {T E:TypeId} {o0 o1 o2:Operand} {s0 s1 s2:Rat × Rat} [u:UN P T (.array 3 E)] [t:TI P E 6 true] [z:ZI P T (.agg [.agg [ratL 0,ratL 0],.agg [ratL 0,ratL 0],.agg [ratL 0,ratL 0]])] (h0:ρ o0=spL s0) (h1:ρ o1=spL s1) (h2:ρ o2=spL s2) :
  OpP P H ρ (.build T #[(0,o0),(1,o1),(2,o2)]) (bxL ⟨s0,s1,s2⟩):=by
 have:=OpP.bda (H:=H) (ρ:=ρ) (ps:=#[(0,o0),(1,o1),(2,o2)]) (u:=u) (t:=t) (z:=z) (by simp [lay,LV.csize,csizes,ratE.csize,isAgg_agg]) (by
  intro p hp
  simp only [List.mem_cons,List.not_mem_nil,or_false] at hp
  rcases hp with rfl | rfl | rfl
  ·exact⟨_,rfl,by rw [h0];simp [lay,spE.csize,spE.isAgg,LV.csize,csizes,ratE.csize,isAgg_agg],by rw [h0];exact LV.pure_ne_any (spE.pure _),by rw [h0];exact LV.pure_ne_tup (spE.pure _)⟩
  ·exact⟨_,rfl,by rw [h1];simp [lay,spE.csize,spE.isAgg,LV.csize,csizes,ratE.csize,isAgg_agg],by rw [h1];exact LV.pure_ne_any (spE.pure _),by rw [h1];exact LV.pure_ne_tup (spE.pure _)⟩
  ·exact⟨_,rfl,by rw [h2];simp [lay,spE.csize,spE.isAgg,LV.csize,csizes,ratE.csize,isAgg_agg],by rw [h2];exact LV.pure_ne_any (spE.pure _),by rw [h2];exact LV.pure_ne_tup (spE.pure _)⟩)
 simpa only [buildL,List.map,List.foldl,List.set,h0,h1,h2] using this
theorem bxcs:(LV.agg [.agg [ratL 0,ratL 0],.agg [ratL 0,ratL 0],.agg [ratL 0,ratL 0]]).csize=18:=by simp [LV.csize,csizes,ratE.csize]
theorem bxcs2 (a b c:Rat × Rat):(LV.agg [spL a,spL b,spL c]).csize=18:=bxE.csize ⟨a,b,c⟩
theorem dr1 (l:List V3) (j:Nat):(l.drop 1).getD j default=l.getD (j+1) default:=by
 rw [List.getD_eq_getElem?_getD,List.getD_eq_getElem?_getD,List.getElem?_drop,Nat.add_comm]
namespace H_c_VBoxOf
theorem zSm {p q:Prop} (k:q) (e:p=q:=by simp only [e1,e2,e3,e4,p1,p2,p3,q1,q2,q3,l1,t0,t1,r1,r2,r3,r4,Nat.zero_add,Nat.reduceMul,Nat.reduceAdd,b1,b2,b3,b4,b5,b6,i1,i2,i3,i4,i5,i6,Nat.reduceBEq,bxcs,bxcs2,dr1,dfq,List.length_drop,List.length_map,List.set_cons_zero,List.set_cons_succ,Nat.reduceEqDiff,reduceIte,if_true,if_false,ptL_kill,poL_kill,kills_map ptE,kills_map poE,kills_map ratE,ratL_kill,spL_kill,LV.kill,kills];exact rfl):p:=e.mpr k
end H_c_VBoxOf
open H_c_VBoxOf in
theorem c_VBoxOf (l:List V3) (h0:0<l.length) (hl:l.length≤1000) (R:Nat) (hR:R≤1000000) (hb:∀ i,i<l.length→bd3 R (l.getD i default)):CallP Tryz.prog 148 [.list 9 (l.map ptL)] (.tup [bxL (bxP l),iL 0]):=by
 obtain⟨z1,z2,z3⟩:=hb 0 h0
 refine fnP Tryz.func148 (ht:=(tame2 (bxE.pure _) rfl)) ?_
 refine zg19 ?_
 refine wl_if rfl (fun h10r h10=>?_) (fun h10r h10=>?_)
 ·omega
 ·refine zg9 ?_
  refine wl_unroll ?_
  refine zg6 ?_
  refine wl_condX (b:=_) rfl (by decide) ?_
  refine zg18 ?_
  refine cp am1 (c_SPoint (l.getD 0 default).x (by omega)) ?_
  refine zg7 ?_
  refine st_pure rfl (.sliceLl (a:=1) ptE rfl Tryz.underlying129 T31 rfl om) ?_
  refine zg5 ?_
  refine lp1 (fun(j:Nat) L=>(((((((((St.mk L.slot (hp [(2,⟨18,[.agg [.agg [ratL 0,ratL 0],.agg [ratL 0,ratL 0],.agg [ratL 0,ratL 0]]],true⟩),(4,⟨18,[.agg [spL (bxN l 0 j),.agg [ratL 0,ratL 0],.agg [ratL 0,ratL 0]]],true⟩)])).put (some 0) (.list 9 (l.map ptL))).put (some 2) (.eptr 2 18 0 0)).put (some 4) (.eptr 4 18 0 0)).put (some 5) (iL 0)).put (some 12) (iL 0)).put (some 24) (.list 9 ((l.drop 1).map ptL))).put (some 25) (nI64 (l.length-1))).put (some 26) (nI64 j))) (fun j=>j≤l.length-1) (fun j=>l.length-1-j) 0 (Nat.zero_le _) ?_
  rintro j L2 hj
  refine zg6 ?_
  refine wl_if rfl (fun h27r h27=>?_) (fun h27r h27=>?_)
  ·have hj2:j<l.length-1:=by omega
   obtain⟨g1,g2,g3⟩:=hb (j+1) (by omega)
   have hH0:CallP Tryz.prog 208 [spL (bxN l 0 j),spL ((l.getD (j+1) default).x,(l.getD (j+1) default).x)] (spL (bxN l 0 (j+1))):=hul_call (fun s t h1 h2=>c_SHull s t (by omega) (by omega)) hR hb 0 j (by omega)
   refine zg12 ?_
   refine wl_regD 10 (by decide +kernel) ?_
   refine zg7 ?_
   refine cp am1 (c_SPoint (l.getD (j+1) default).x (by omega)) ?_
   refine cp am2 (hH0) ?_
   refine zg5 ?_
   refine wl_regW (Weak.kill _ 7) ?_
   refine st_pure rfl (.bin rfl rfl (add1N (by omega))) ?_
   refine zg3 ?_
   exact nx1 (j+1) (by omega)
  ·obtain rfl:j=l.length-1:=by omega
   refine zg11 ?_
   refine wl_unroll ?_
   refine zg6 ?_
   refine wl_condX (b:=_) rfl (by decide) ?_
   refine zg18 ?_
   refine cp am1 (c_SPoint (l.getD 0 default).y (by omega)) ?_
   refine zg7 ?_
   refine st_pure rfl (.sliceLl (a:=1) ptE rfl Tryz.underlying129 T31 rfl om) ?_
   refine zg5 ?_
   refine lp1 (fun(j:Nat) L=>(((((((((St.mk L.slot (hp [(2,⟨18,[.agg [.agg [ratL 0,ratL 0],.agg [ratL 0,ratL 0],.agg [ratL 0,ratL 0]]],true⟩),(4,⟨18,[.agg [spL (bxN l 0 (l.length-1)),spL (bxN l 1 j),.agg [ratL 0,ratL 0]]],true⟩)])).put (some 0) (.list 9 (l.map ptL))).put (some 2) (.eptr 2 18 0 0)).put (some 4) (.eptr 4 18 0 0)).put (some 5) (iL 1)).put (some 12) (iL 1)).put (some 24) (.list 9 ((l.drop 1).map ptL))).put (some 25) (nI64 (l.length-1))).put (some 26) (nI64 j))) (fun j=>j≤l.length-1) (fun j=>l.length-1-j) 0 (Nat.zero_le _) ?_
   rintro j L2 hj
   refine zg6 ?_
   refine wl_if rfl (fun h27r h27=>?_) (fun h27r h27=>?_)
   ·have hj2:j<l.length-1:=by omega
    obtain⟨g1,g2,g3⟩:=hb (j+1) (by omega)
    have hH1:CallP Tryz.prog 208 [spL (bxN l 1 j),spL ((l.getD (j+1) default).y,(l.getD (j+1) default).y)] (spL (bxN l 1 (j+1))):=hul_call (fun s t h1 h2=>c_SHull s t (by omega) (by omega)) hR hb 1 j (by omega)
    refine zg12 ?_
    refine wl_regD 10 (by decide +kernel) ?_
    refine zg7 ?_
    refine cp am1 (c_SPoint (l.getD (j+1) default).y (by omega)) ?_
    refine cp am2 (hH1) ?_
    refine zg5 ?_
    refine wl_regW (Weak.kill _ 7) ?_
    refine st_pure rfl (.bin rfl rfl (add1N (by omega))) ?_
    refine zg3 ?_
    exact nx1 (j+1) (by omega)
   ·obtain rfl:j=l.length-1:=by omega
    refine zg11 ?_
    refine wl_unroll ?_
    refine zg6 ?_
    refine wl_condX (b:=_) rfl (by decide) ?_
    refine zg18 ?_
    refine cp am1 (c_SPoint (l.getD 0 default).z (by omega)) ?_
    refine zg7 ?_
    refine st_pure rfl (.sliceLl (a:=1) ptE rfl Tryz.underlying129 T31 rfl om) ?_
    refine zg5 ?_
    refine lp1 (fun(j:Nat) L=>(((((((((St.mk L.slot (hp [(2,⟨18,[.agg [.agg [ratL 0,ratL 0],.agg [ratL 0,ratL 0],.agg [ratL 0,ratL 0]]],true⟩),(4,⟨18,[.agg [spL (bxN l 0 (l.length-1)),spL (bxN l 1 (l.length-1)),spL (bxN l 2 j)]],true⟩)])).put (some 0) (.list 9 (l.map ptL))).put (some 2) (.eptr 2 18 0 0)).put (some 4) (.eptr 4 18 0 0)).put (some 5) (iL 2)).put (some 12) (iL 2)).put (some 24) (.list 9 ((l.drop 1).map ptL))).put (some 25) (nI64 (l.length-1))).put (some 26) (nI64 j))) (fun j=>j≤l.length-1) (fun j=>l.length-1-j) 0 (Nat.zero_le _) ?_
    rintro j L2 hj
    refine zg6 ?_
    refine wl_if rfl (fun h27r h27=>?_) (fun h27r h27=>?_)
    ·have hj2:j<l.length-1:=by omega
     obtain⟨g1,g2,g3⟩:=hb (j+1) (by omega)
     have hH2:CallP Tryz.prog 208 [spL (bxN l 2 j),spL ((l.getD (j+1) default).z,(l.getD (j+1) default).z)] (spL (bxN l 2 (j+1))):=hul_call (fun s t h1 h2=>c_SHull s t (by omega) (by omega)) hR hb 2 j (by omega)
     refine zg12 ?_
     refine wl_regD 10 (by decide +kernel) ?_
     refine zg7 ?_
     refine cp am1 (c_SPoint (l.getD (j+1) default).z (by omega)) ?_
     refine cp am2 (hH2) ?_
     refine zg5 ?_
     refine wl_regW (Weak.kill _ 7) ?_
     refine st_pure rfl (.bin rfl rfl (add1N (by omega))) ?_
     refine zg3 ?_
     exact nx1 (j+1) (by omega)
    ·obtain rfl:j=l.length-1:=by omega
     refine zg11 ?_
     refine wl_unroll ?_
     refine zg6 ?_
     refine wl_condY (b:=_) rfl (by decide) ?_
     refine zg13 ?_
     exact retCT [] rfl rfl rfl cs (at_all cs rfl) T69 (.pure pu) rfl (.pure rfl)
namespace H_c_FPtBox
theorem zSm {p q:Prop} (k:q) (e:p=q:=by simp only [e1,e2,e3,e4,p1,p2,p3,q1,q2,q3,l1,t0,t1,r1,r2,r3,r4,Nat.zero_add,Nat.reduceMul,Nat.reduceAdd,b1,b2,b3,b4,b5,b6,i1,i2,i3,i4,i5,i6,Nat.reduceBEq,List.getD_cons_zero,List.getD_cons_succ,List.set_cons_zero,List.set_cons_succ,Nat.reduceEqDiff,reduceIte,if_true,if_false,ptL_kill,poL_kill,kills_map ptE,kills_map poE,kills_map ratE,ratL_kill,spL_kill,LV.kill,kills];exact rfl):p:=e.mpr k
end H_c_FPtBox
open H_c_FPtBox in
theorem c_FPtBox (p:V3):CallP Tryz.prog 257 [ptL p] (bxL ⟨(p.x,p.x),(p.y,p.y),(p.z,p.z)⟩):=by
 refine fnP Tryz.func257 (ht:=(fun r=>LV.ren_pure r _ (bxE.pure _))) ?_
 refine zg7 ?_
 refine wl_regD 10 (by decide +kernel) ?_
 refine zg2 ?_
 refine cp am1 (c_FPoint p.x) ?_
 refine zg2 ?_
 refine cp am1 (c_FPoint p.y) ?_
 refine zg2 ?_
 refine cp am1 (c_FPoint p.z) ?_
 refine s0bd (bdS3 rfl rfl rfl) ?_
 refine zg4 ?_
 exact retC [] rfl rfl rfl cs (at_all cs rfl) T69 (.pure pu)
namespace H_c_FBoxOf
theorem zSm {p q:Prop} (k:q) (e:p=q:=by simp only [e1,e2,e3,e4,p1,p2,p3,q1,q2,q3,l1,t0,t1,r1,r2,r3,r4,Nat.zero_add,Nat.reduceMul,Nat.reduceAdd,b1,b2,b3,b4,b5,b6,i1,i2,i3,i4,i5,i6,Nat.reduceBEq,bxcs,bxcs2,dfq,Nat.sub_self,Nat.add_sub_cancel,List.length_map,List.set_cons_zero,List.set_cons_succ,Nat.reduceEqDiff,reduceIte,if_true,if_false,ptL_kill,poL_kill,kills_map ptE,kills_map poE,kills_map ratE,ratL_kill,spL_kill,LV.kill,kills];exact rfl):p:=e.mpr k
end H_c_FBoxOf
open H_c_FBoxOf in
theorem c_FBoxOf (l:List V3) (h0:0<l.length) (hl:l.length≤1000) (R:Nat) (hR:R≤1000000) (hb:∀ i,i<l.length→bd3 R (l.getD i default)):CallP Tryz.prog 159 [.list 9 (l.map ptL)] (.tup [bxL (bxP l),iL 0]):=by
 have hPB:CallP Tryz.prog 257 [ptL (l.getD 0 default)] (.agg [spL (bxN l 0 0),spL (bxN l 1 0),spL (bxN l 2 0)]):=c_FPtBox (l.getD 0 default)
 refine fnP Tryz.func159 (ht:=(tame2 (bxE.pure _) rfl)) ?_
 refine zg14 ?_
 refine wl_if rfl (fun h9r h9=>?_) (fun h9r h9=>?_)
 ·omega
 ·refine zg7 ?_
  refine cp am1 (hPB) ?_
  refine zg11 ?_
  refine lp1 (fun(i:Nat) L=>(((((St.mk L.slot (hp [(2,⟨18,[.agg [.agg [ratL 0,ratL 0],.agg [ratL 0,ratL 0],.agg [ratL 0,ratL 0]]],true⟩),(4,⟨18,[.agg [spL (bxN l 0 (i-1)),spL (bxN l 1 (i-1)),spL (bxN l 2 (i-1))]],true⟩)])).put (some 0) (.list 9 (l.map ptL))).put (some 2) (.eptr 2 18 0 0)).put (some 4) (.eptr 4 18 0 0)).put (some 5) (nI64 i))) (fun i=>1≤i∧i≤l.length) (fun i=>l.length-i) 1 ⟨Nat.le_refl _,h0⟩ ?_
  rintro i L1 ⟨hi1,hi⟩
  refine zg9 ?_
  refine wl_if rfl (fun h18r h18=>?_) (fun h18r h18=>?_)
  ·have hi2:i<l.length:=by omega
   obtain⟨k,rfl⟩:∃ k,i=k+1:=⟨i-1,by omega⟩
   obtain⟨g1,g2,g3⟩:=hb (k+1) (by omega)
   have hH0:CallP Tryz.prog 213 [spL (bxN l 0 k),spL ((l.getD (k+1) default).x,(l.getD (k+1) default).x)] (spL (bxN l 0 (k+1))):=hul_call (fun s t h1 h2=>c_FHull s t (by omega) (by omega)) hR hb 0 k (by omega)
   have hH1:CallP Tryz.prog 213 [spL (bxN l 1 k),spL ((l.getD (k+1) default).y,(l.getD (k+1) default).y)] (spL (bxN l 1 (k+1))):=hul_call (fun s t h1 h2=>c_FHull s t (by omega) (by omega)) hR hb 1 k (by omega)
   have hH2:CallP Tryz.prog 213 [spL (bxN l 2 k),spL ((l.getD (k+1) default).z,(l.getD (k+1) default).z)] (spL (bxN l 2 (k+1))):=hul_call (fun s t h1 h2=>c_FHull s t (by omega) (by omega)) hR hb 2 k (by omega)
   refine zg10 ?_
   refine wl_unroll ?_
   refine zg7 ?_
   refine wl_condX (b:=_) rfl (by decide) ?_
   refine zg4 ?_
   refine wl_regD 13 (by decide +kernel) ?_
   refine zg10 ?_
   refine cp am1 (c_FPoint (l.getD (k+1) default).x) ?_
   refine cp am2 (hH0) ?_
   refine zg11 ?_
   refine wl_unroll ?_
   refine zg7 ?_
   refine wl_condX (b:=_) rfl (by decide) ?_
   refine zg4 ?_
   refine wl_regD 13 (by decide +kernel) ?_
   refine zg10 ?_
   refine cp am1 (c_FPoint (l.getD (k+1) default).y) ?_
   refine cp am2 (hH1) ?_
   refine zg11 ?_
   refine wl_unroll ?_
   refine zg7 ?_
   refine wl_condX (b:=_) rfl (by decide) ?_
   refine zg4 ?_
   refine wl_regD 13 (by decide +kernel) ?_
   refine zg10 ?_
   refine cp am1 (c_FPoint (l.getD (k+1) default).z) ?_
   refine cp am2 (hH2) ?_
   refine zg11 ?_
   refine wl_unroll ?_
   refine zg7 ?_
   refine wl_condY (b:=_) rfl (by decide) ?_
   refine zg8 ?_
   refine st_pure rfl (.bin rfl rfl (add1N (by omega))) ?_
   refine zg3 ?_
   exact nx1 (k+1+1) ⟨by omega,by omega⟩
  ·obtain rfl:i=l.length:=by omega
   refine zg13 ?_
   exact retCT [] rfl rfl rfl cs (at_all cs rfl) T69 (.pure pu) rfl (.pure rfl)
namespace H_c_FPoints
theorem zSm {p q:Prop} (k:q) (e:p=q:=by simp only [e1,e2,e3,e4,p1,p2,p3,q1,q2,q3,l1,t0,t1,r1,r2,r3,r4,Nat.zero_add,Nat.reduceMul,Nat.reduceAdd,b1,b2,b3,b4,b5,b6,i1,i2,i3,i4,i5,i6,Nat.reduceBEq,etk,ers,List.length_map,take_map_len,map_snoc,len_snoc,List.length_cons,List.length_nil,List.nil_append,List.map_nil,List.take_nil,List.append_nil,List.set_cons_zero,List.set_cons_succ,Nat.reduceEqDiff,reduceIte,if_true,if_false,ptL_kill,poL_kill,kills_map ptE,kills_map poE,kills_map ratE,ratL_kill,spL_kill,LV.kill,kills];exact rfl):p:=e.mpr k
end H_c_FPoints
open H_c_FPoints in
theorem c_FPoints (po:List PoR) (hl:po.length≤1000):CallP Tryz.prog 160 [.list 12 (po.map poL)] (.list 9 ((po.map (·.p)).map ptL)):=by
 refine fnP Tryz.func160 (ht:=(fun g=>LV.ren_pure g _ (pure_lst ptE 9 _))) ?_
 have etk:True:=trivial
 have ers:True:=trivial
 refine zg17 ?_
 refine wl_weak (Weak.own (t:=3) 18 9 rfl rfl) ?_
 refine lp1 (fun(i:Nat) L=>((((St.mk L.slot (hp [(18,⟨9,((po.map (·.p)).take i).map ptL,true⟩)])).put (some 0) (.list 12 (po.map poL))).put (some 3) (.ref 18 9 0 i)).put (some 4) (nI64 i))) (fun i=>i≤po.length) (fun i=>po.length-i) 0 (Nat.zero_le _) ?_
 rintro i L1 hi
 refine zg9 ?_
 refine wl_if rfl (fun h8r h8=>?_) (fun h8r h8=>?_)
 ·have hi2:i<po.length:=by omega
  have hdt:((po.map (·.p)).take i).length=i:=by rw [List.length_take,List.length_map];omega
  have etk:(((po.map (·.p)).take i).map ptL).take i=((po.map (·.p)).take i).map ptL:=List.take_of_length_le (by rw [List.length_map];omega)
  have ers:(po.map (·.p)).take i++[(po.getD i default).p]=(po.map (·.p)).take (i+1):=take_snocM (·.p) po hi2
  refine zg12 ?_
  refine st_store rfl (.app (news:=[ptL (po.getD i default).p]) rfl rfl rfl rfl rfl (by rw [List.length_map];omega) (.inl rfl) (by decide) Tryz.underlying129 Tryz.underlying129 Z31 T31 cs B31 (.inl ⟨17,0,_,rfl,by decide,rfl,rfl,by simp,rfl,by simp [pures,ptE.pure]⟩) (by simp;omega) (by simp;omega) (by decide)) ?_
  refine zg4 ?_
  refine wl_regW (Weak.kill _ 17) ?_
  refine zg1 ?_
  refine st_pure rfl (.bin rfl rfl (add1N (by omega))) ?_
  refine zg3 ?_
  exact nx1 (i+1) (by omega)
 ·obtain rfl:i=po.length:=by omega
  have hE:(po.map (·.p)).take po.length=(po.map (·.p)):=List.take_of_length_le (by simp)
  refine zg12 ?_
  simp only [hE]
  exact ret1f [18] rfl rfl (imm_refm ptE rfl rfl (by simp))
namespace H_c_Box
theorem zSm {p q:Prop} (k:q) (e:p=q:=by simp only [e1,e2,e3,e4,p1,p2,p3,q1,q2,q3,l1,t0,t1,r1,r2,r3,r4,Nat.zero_add,Nat.reduceMul,Nat.reduceAdd,b1,b2,b3,b4,b5,b6,i1,i2,i3,i4,i5,i6,Nat.reduceBEq,List.set_cons_zero,List.set_cons_succ,Nat.reduceEqDiff,reduceIte,if_true,if_false,ptL_kill,poL_kill,kills_map ptE,kills_map poE,kills_map ratE,ratL_kill,spL_kill,LV.kill,kills];exact rfl):p:=e.mpr k
end H_c_Box
open H_c_Box in
theorem c_Box (d:Nat) (kn:List Rat) (po:List PoR) (h:cvF po d):CallP Tryz.prog 52 [.agg [nI64 d,.list 3 (kn.map ratL),.list 12 (po.map poL)]] (bxL (bxP (po.map (·.p)))):=by
 have hl:=h.hl
 have hd:=h.hd
 have h6:=h.h6
 have hpb:∀ i,i<(po.map (·.p)).length→bd3 1 ((po.map (·.p)).getD i default):=fun i hi=>ps_bd h.ok (by rw [List.length_map] at hi;exact hi)
 have hcp:LV.pure (.agg [nI64 d,.list 3 (kn.map ratL),.list 12 (po.map poL)])=true:=by simp [LV.pure,pures,pures_map ratE,pures_map poE]
 refine fnP Tryz.func52 (ht:=(fun r=>LV.ren_pure r _ (bxE.pure _))) ?_
 refine zg9 ?_
 refine cp am1 (c_points d kn po h) ?_
 refine cp am1 (c_VBoxOf (po.map (·.p)) (by rw [List.length_map];omega) (by rw [List.length_map];omega) 1 (by decide) hpb) ?_
 refine zg15 ?_
 exact retC [] rfl rfl rfl cs (at_all cs rfl) T69 (.pure pu)
namespace H_c_FBox
theorem zSm {p q:Prop} (k:q) (e:p=q:=by simp only [e1,e2,e3,e4,p1,p2,p3,q1,q2,q3,l1,t0,t1,r1,r2,r3,r4,Nat.zero_add,Nat.reduceMul,Nat.reduceAdd,b1,b2,b3,b4,b5,b6,i1,i2,i3,i4,i5,i6,Nat.reduceBEq,List.set_cons_zero,List.set_cons_succ,Nat.reduceEqDiff,reduceIte,if_true,if_false,ptL_kill,poL_kill,kills_map ptE,kills_map poE,kills_map ratE,ratL_kill,spL_kill,LV.kill,kills];exact rfl):p:=e.mpr k
end H_c_FBox
open H_c_FBox in
theorem c_FBox (d:Nat) (kn:List Rat) (po:List PoR) (h:cvF po d):CallP Tryz.prog 61 [.agg [nI64 d,.list 3 (kn.map ratL),.list 12 (po.map poL)]] (bxL (bxP (po.map (·.p)))):=by
 have hl:=h.hl
 have hd:=h.hd
 have h6:=h.h6
 have hpb:∀ i,i<(po.map (·.p)).length→bd3 1 ((po.map (·.p)).getD i default):=fun i hi=>ps_bd h.ok (by rw [List.length_map] at hi;exact hi)
 have hcp:LV.pure (.agg [nI64 d,.list 3 (kn.map ratL),.list 12 (po.map poL)])=true:=by simp [LV.pure,pures,pures_map ratE,pures_map poE]
 refine fnP Tryz.func61 (ht:=(fun r=>LV.ren_pure r _ (bxE.pure _))) ?_
 refine zg10 ?_
 refine cp am1 (c_FPoints po (by omega)) ?_
 refine cp am1 (c_FBoxOf (po.map (·.p)) (by rw [List.length_map];omega) (by rw [List.length_map];omega) 1 (by decide) hpb) ?_
 refine zg15 ?_
 exact retC [] rfl rfl rfl cs (at_all cs rfl) T69 (.pure pu)
end Go.Proofs.YtgfbghoihhnahaaGreat
end
section
set_option linter.unusedVariables false
set_option linter.unusedSimpArgs false
set_option maxHeartbeats 8000000
set_option maxRecDepth 100000
attribute [local irreducible] Go.Lg.opsL Go.Lg.wpL Go.Lg.thenL Go.Lg.blockL
namespace Go.Proofs.YtgfbghoihhnahaaGreat
open Go.Lg
def kn2 (d:Nat) (a b:Rat):List Rat:=List.replicate (d+1) a++List.replicate (d+1) b
theorem kn2_0 (d:Nat) (T:Rat):kn2 d T (T+1)=kn0 d T:=rfl
theorem kn2_len (d:Nat) (a b:Rat):(kn2 d a b).length=2*(d+1):=by simp [kn2];omega
theorem kn2_get (d:Nat) (a b:Rat) (i:Nat) (h:i<2*(d+1)):(kn2 d a b).getD i 0=if i<d+1 then a else b:=by
 unfold kn2
 split
 ·rw [gD1 (by simp;omega),getD_rep (by omega)]
 ·rw [gD2 (by simp;omega),List.length_replicate,getD_rep (by omega)]
theorem kn2_lo (d:Nat) (a b:Rat):(kn2 d a b).getD 0 0=a:=by rw [kn2_get _ _ _ _ (by omega),if_pos (by omega)]
theorem kn2_hi (d:Nat) (a b:Rat):(kn2 d a b).getD (2*(d+1)-1) 0=b:=by rw [kn2_get _ _ _ _ (by omega),if_neg (by omega)]
theorem kn2_rl {d:Nat} {a b:Rat} {R:Nat} (ha:rl a≤R) (hb:rl b≤R):∀ x∈kn2 d a b,rl x≤R:=fun x hx=>by
 rcases List.mem_append.1 hx with g | g
 ·rw [(List.mem_replicate.1 g).2];exact ha
 ·rw [(List.mem_replicate.1 g).2];exact hb
theorem kn2_stA {d m:Nat} {a b:Rat} (h:m<2*(d+1)) (h2:m≤d):(kn2 d a b).take m++[a]=(kn2 d a b).take (m+1):=by
 have e:=kn2_get d a b m h
 rw [if_pos (by omega)] at e
 rw [←take_snocL (l:=kn2 d a b) (k:=m) (by rw [kn2_len];exact h),e]
theorem kn2_stB {d m:Nat} {a b:Rat} (h:m<2*(d+1)) (h2:¬m≤d):(kn2 d a b).take m++[b]=(kn2 d a b).take (m+1):=by
 have e:=kn2_get d a b m h
 rw [if_neg (by omega)] at e
 rw [←take_snocL (l:=kn2 d a b) (k:=m) (by rw [kn2_len];exact h),e]
theorem mn_lt2 {a b:Rat} (h:a<b):mnR a b=a:=by unfold mnR;rw [if_neg (by grind)]
theorem mx_lt2 {a b:Rat} (h:a<b):mxR a b=b:=by unfold mxR;rw [if_pos h]
theorem hs_ofL {p:List Rat} {x:Rat} (hl:p.length≤7) (hp:∀ y∈p,rl y≤7000000) (hx:rl x≤100000):HS p x:=by
 have h1:=rl_sub 1 x
 have h0:rl 1=1:=rfl
 refine⟨rl (1-x)+rl x+1,Nat.le_refl _,by omega,fun y hy=>?_⟩
 have h2:=hp y hy
 have h3:2 ^ p.length≤2 ^ 7:=Nat.pow_le_pow_right (by decide) hl
 have h4:(rl y+(rl (1-x)+rl x+1))*2 ^ p.length≤8000000*2 ^ 7:=Nat.mul_le_mul (by omega) h3
 omega
theorem hi_rl {p:List Rat} {x:Rat} {R S:Nat} (hl:p.length≤7) (hp:∀ y∈p,rl y≤R) (hR:1≤R) (hx:rl (1-x)+rl x+1≤S):∀ y∈hiP p x,rl y≤(R+S)*64:=fun y hy=>by
 obtain⟨j,hj,rfl⟩:=List.mem_iff_getElem.1 hy
 have hj2:j<p.length:=by rw [hiP_len] at hj;exact hj
 have e:(hiP p x)[j]=(hiP p x).getD j 0:=by rw [List.getD_eq_getElem?_getD,List.getElem?_eq_getElem hj];rfl
 rw [e,hi_get hj2]
 have h1:=fE_rl (a:=1-x) (b:=x) (p.length-1-j) (fun i=>p.getD (j+i) 0) R (fun i=>getD_rl hR hp _)
 have h2:2 ^ (p.length-1-j)≤64:=Nat.pow_le_pow_right (n:=2) (by decide) (show p.length-1-j≤6 by omega)
 exact Nat.le_trans h1 (Nat.mul_le_mul (by omega) h2)
theorem mul2N {n:Nat} (h:2*n≤9223372036854775807):binI .mul .i64 2 (n:Nat)=some (.int .i64 ((2*n:Nat):Int)):=by
 rw [mul64 (by omega) (by omega)];congr 2
theorem rep_crv2 (d sz:Nat) (x z:LV) (Z:Nat→Prop) (μ:Nat→Option Nat) (w:World) (cs:List Value) (h:Rep Z μ w (.agg [x,.v (.slice none 0 0),z]) cs):Rep Z μ w (.agg [x,.ref d sz 0 0,z]) cs:=by
 simp only [Rep,RepFs] at h ⊢
 obtain⟨c1,c2,e1,e2,e3,c3,c4,e4,e5,e6,c5,c6,e7,e8,e9,e10⟩:=h
 exact⟨c1,c2,e1,e2,e3,c3,c4,e4,e5,.inl ⟨e6.1,trivial⟩,c5,c6,e7,e8,e9,e10⟩
namespace H_c_Of2
theorem zSm {p q:Prop} (k:q) (e:p=q:=by simp only [e1,e2,e3,e4,p1,p2,p3,q1,q2,q3,l1,t0,t1,r1,r2,r3,r4,Nat.zero_add,Nat.reduceMul,Nat.reduceAdd,b1,b2,b3,b4,b5,b6,i1,i2,i3,i4,i5,i6,Nat.reduceBEq,List.set_cons_zero,List.set_cons_succ,Nat.reduceEqDiff,reduceIte,if_true,if_false,ptL_kill,poL_kill,kills_map ptE,kills_map poE,kills_map ratE,ratL_kill,spL_kill,LV.kill,kills];exact rfl):p:=e.mpr k
end H_c_Of2
open H_c_Of2 in
theorem c_Of2 (q:PoR) (R:Nat) (hR:R≤1000000) (h:okP R q):CallP Tryz.prog 133 [poL q] (.agg [ratL (q.w*q.p.x),ratL (q.w*q.p.y),ratL (q.w*q.p.z),ratL q.w]):=by
 obtain⟨⟨a1,a2,a3⟩,a4,_⟩:=h
 have hA:=c_RAdd q.w 0 (by have:rl 0=1:=rfl;omega)
 rw [Rat.add_zero] at hA
 refine fnP Tryz.func133 (ht:=(fun g=>LV.ren_pure g _ pu)) ?_
 refine zg20 ?_
 refine wl_unroll ?_
 refine zg6 ?_
 refine wl_condX (b:=_) rfl (by decide) ?_
 refine zg18 ?_
 refine cp am2 (c_RMul q.w q.p.x (by omega)) ?_
 refine zg5 ?_
 refine wl_regW (Weak.kill _ 5) ?_
 refine zg4 ?_
 refine wl_unroll ?_
 refine zg6 ?_
 refine wl_condX (b:=_) rfl (by decide) ?_
 refine zg18 ?_
 refine cp am2 (c_RMul q.w q.p.y (by omega)) ?_
 refine zg5 ?_
 refine wl_regW (Weak.kill _ 5) ?_
 refine zg4 ?_
 refine wl_unroll ?_
 refine zg6 ?_
 refine wl_condX (b:=_) rfl (by decide) ?_
 refine zg18 ?_
 refine cp am2 (c_RMul q.w q.p.z (by omega)) ?_
 refine zg5 ?_
 refine wl_regW (Weak.kill _ 5) ?_
 refine zg4 ?_
 refine wl_unroll ?_
 refine zg6 ?_
 refine wl_condY (b:=_) rfl (by decide) ?_
 refine zg9 ?_
 refine st_pure rfl (.build0 SL29 Z29a) ?_
 refine cp am2 (hA) ?_
 refine zg11 ?_
 exact retC [] rfl rfl rfl cs (at_all cs rfl) T153 (.pure pu)
namespace H_c_BNum2
theorem zSm {p q:Prop} (k:q) (e:p=q:=by simp only [e1,e2,e3,e4,p1,p2,p3,q1,q2,q3,l1,t0,t1,r1,r2,r3,r4,Nat.zero_add,Nat.reduceMul,Nat.reduceAdd,b1,b2,b3,b4,b5,b6,i1,i2,i3,i4,i5,i6,Nat.reduceBEq,etk0,etk1,etk2,etk3,ers0,ers1,ers2,ers3,take_map_len,map_snoc,len_snoc,List.length_cons,List.length_nil,List.nil_append,List.map_nil,List.take_nil,List.append_nil,List.set_cons_zero,List.set_cons_succ,Nat.reduceEqDiff,reduceIte,if_true,if_false,ptL_kill,poL_kill,kills_map ptE,kills_map poE,kills_map ratE,ratL_kill,spL_kill,LV.kill,kills];exact rfl):p:=e.mpr k
end H_c_BNum2
open H_c_BNum2 in
theorem c_BNum2 (d:Nat) (kn:List Rat) (po:List PoR) (R:Nat) (hR:R≤1000000) (h:cvR po d R):CallP Tryz.prog 36 [.agg [nI64 d,.list 3 (kn.map ratL),.list 12 (po.map poL)]] (.agg [.list 3 ((nmP po 0).map ratL),.list 3 ((nmP po 1).map ratL),.list 3 ((nmP po 2).map ratL),.list 3 ((wtP po).map ratL)]):=by
 have hl:=h.hl
 have hd:=h.hd
 have h6:=h.h6
 have hcp:LV.pure (.agg [nI64 d,.list 3 (kn.map ratL),.list 12 (po.map poL)])=true:=by simp [LV.pure,pures,pures_map ratE,pures_map poE]
 have hn0:=nmP_len po 0
 have hn1:=nmP_len po 1
 have hn2:=nmP_len po 2
 have hn3:=wtP_len po
 refine fnP Tryz.func36 (ht:=(fun g=>LV.ren_pure g _ (by simp [LV.pure,pures,pures_map ratE]))) ?_
 have etk0:True:=trivial
 have etk1:True:=trivial
 have etk2:True:=trivial
 have etk3:True:=trivial
 have ers0:True:=trivial
 have ers1:True:=trivial
 have ers2:True:=trivial
 have ers3:True:=trivial
 refine zg21 ?_
 refine wl_weak (((Weak.kill _ 1).trans (Weak.cell 3 rfl (fun Z μ w cs h=>rep_arr4 1001 1002 1003 1004 3 Z μ w cs h))).trans ((Weak.newB _ 1001 3 rfl).trans ((Weak.newB _ 1002 3 rfl).trans ((Weak.newB _ 1003 3 rfl).trans (Weak.newB _ 1004 3 rfl))))) ?_
 refine lp1 (fun(j:Nat) L=>((((((St.mk L.slot (hp [(2,⟨4,[.agg [.v (.slice none 0 0),.v (.slice none 0 0),.v (.slice none 0 0),.v (.slice none 0 0)]],true⟩),(3,⟨4,[.agg [.ref 1001 3 0 j,.ref 1002 3 0 j,.ref 1003 3 0 j,.ref 1004 3 0 j]],true⟩),(1001,⟨3,((nmP po 0).take j).map ratL,true⟩),(1002,⟨3,((nmP po 1).take j).map ratL,true⟩),(1003,⟨3,((nmP po 2).take j).map ratL,true⟩),(1004,⟨3,((wtP po).take j).map ratL,true⟩)])).put (some 2) (.eptr 2 4 0 0)).put (some 3) (.eptr 3 4 0 0)).put (some 9) (.list 12 (po.map poL))).put (some 10) (nI64 po.length)).put (some 11) (nI64 j))) (fun j=>j≤po.length) (fun j=>po.length-j) 0 (Nat.zero_le _) ?_
 rintro j L1 hj
 refine zg6 ?_
 refine wl_if rfl (fun h12r h12=>?_) (fun h12r h12=>?_)
 ·have hj2:j<po.length:=by omega
  have hok:=h.ok _ (getD_memP hj2)
  have ers0:(nmP po 0).take j++[(po.getD j default).w*(po.getD j default).p.x]=(nmP po 0).take (j+1):=take_snocM (fun q:PoR=>q.w*q.p.at 0) po hj2
  have ers1:(nmP po 1).take j++[(po.getD j default).w*(po.getD j default).p.y]=(nmP po 1).take (j+1):=take_snocM (fun q:PoR=>q.w*q.p.at 1) po hj2
  have ers2:(nmP po 2).take j++[(po.getD j default).w*(po.getD j default).p.z]=(nmP po 2).take (j+1):=take_snocM (fun q:PoR=>q.w*q.p.at 2) po hj2
  have ers3:(wtP po).take j++[(po.getD j default).w]=(wtP po).take (j+1):=take_snocM (fun q:PoR=>q.w) po hj2
  have etk0:(((nmP po 0).take j).map ratL).take j=((nmP po 0).take j).map ratL:=List.take_of_length_le (by rw [List.length_map,List.length_take];omega)
  have etk1:(((nmP po 1).take j).map ratL).take j=((nmP po 1).take j).map ratL:=List.take_of_length_le (by rw [List.length_map,List.length_take];omega)
  have etk2:(((nmP po 2).take j).map ratL).take j=((nmP po 2).take j).map ratL:=List.take_of_length_le (by rw [List.length_map,List.length_take];omega)
  have etk3:(((wtP po).take j).map ratL).take j=((wtP po).take j).map ratL:=List.take_of_length_le (by rw [List.length_map,List.length_take];omega)
  refine zg15 ?_
  refine cp am1 (c_Of2 (po.getD j default) R hR hok) ?_
  refine zg4 ?_
  refine wl_unroll ?_
  refine zg6 ?_
  refine wl_condX (b:=_) rfl (by decide) ?_
  refine zg13 ?_
  refine wl_regF 6 [0] (by decide +kernel) ?_
  refine zg6 ?_
  refine st_store rfl (.appX (d:=1001) (news:=[ratL ((po.getD j default).w*(po.getD j default).p.x)]) rfl rfl rfl rfl (by simp;omega) (.inl rfl) (by decide) Tryz.underlying56 Tryz.underlying56 Z29a T29 rfl B29 (.inl ⟨26,0,_,rfl,by decide,rfl,rfl,by simp,rfl,by simp [pures,ratE.pure]⟩) (by simp;omega) (by simp;omega) (by decide)) ?_
  refine zg5 ?_
  refine wl_regW ((Weak.kill _ 7).trans (Weak.kill _ 26)) ?_
  refine zg4 ?_
  refine wl_unroll ?_
  refine zg6 ?_
  refine wl_condX (b:=_) rfl (by decide) ?_
  refine zg13 ?_
  refine wl_regF 6 [0] (by decide +kernel) ?_
  refine zg6 ?_
  refine st_store rfl (.appX (d:=1002) (news:=[ratL ((po.getD j default).w*(po.getD j default).p.y)]) rfl rfl rfl rfl (by simp;omega) (.inl rfl) (by decide) Tryz.underlying56 Tryz.underlying56 Z29a T29 rfl B29 (.inl ⟨26,0,_,rfl,by decide,rfl,rfl,by simp,rfl,by simp [pures,ratE.pure]⟩) (by simp;omega) (by simp;omega) (by decide)) ?_
  refine zg5 ?_
  refine wl_regW ((Weak.kill _ 7).trans (Weak.kill _ 26)) ?_
  refine zg4 ?_
  refine wl_unroll ?_
  refine zg6 ?_
  refine wl_condX (b:=_) rfl (by decide) ?_
  refine zg13 ?_
  refine wl_regF 6 [0] (by decide +kernel) ?_
  refine zg6 ?_
  refine st_store rfl (.appX (d:=1003) (news:=[ratL ((po.getD j default).w*(po.getD j default).p.z)]) rfl rfl rfl rfl (by simp;omega) (.inl rfl) (by decide) Tryz.underlying56 Tryz.underlying56 Z29a T29 rfl B29 (.inl ⟨26,0,_,rfl,by decide,rfl,rfl,by simp,rfl,by simp [pures,ratE.pure]⟩) (by simp;omega) (by simp;omega) (by decide)) ?_
  refine zg5 ?_
  refine wl_regW ((Weak.kill _ 7).trans (Weak.kill _ 26)) ?_
  refine zg4 ?_
  refine wl_unroll ?_
  refine zg6 ?_
  refine wl_condX (b:=_) rfl (by decide) ?_
  refine zg13 ?_
  refine wl_regF 6 [0] (by decide +kernel) ?_
  refine zg6 ?_
  refine st_store rfl (.appX (d:=1004) (news:=[ratL ((po.getD j default).w)]) rfl rfl rfl rfl (by simp;omega) (.inl rfl) (by decide) Tryz.underlying56 Tryz.underlying56 Z29a T29 rfl B29 (.inl ⟨26,0,_,rfl,by decide,rfl,rfl,by simp,rfl,by simp [pures,ratE.pure]⟩) (by simp;omega) (by simp;omega) (by decide)) ?_
  refine zg5 ?_
  refine wl_regW ((Weak.kill _ 7).trans (Weak.kill _ 26)) ?_
  refine zg4 ?_
  refine wl_unroll ?_
  refine zg6 ?_
  refine wl_condY (b:=_) rfl (by decide) ?_
  refine zg6 ?_
  refine wl_regW (Weak.kill _ 5) ?_
  refine st_pure rfl (.bin rfl rfl (add1N (by omega))) ?_
  refine zg3 ?_
  exact nx1 (j+1) (by omega)
 ·obtain rfl:j=po.length:=by omega
  have hE0:(nmP po 0).take po.length=(nmP po 0):=List.take_of_length_le (by omega)
  have hE1:(nmP po 1).take po.length=(nmP po 1):=List.take_of_length_le (by omega)
  have hE2:(nmP po 2).take po.length=(nmP po 2):=List.take_of_length_le (by omega)
  have hE3:(wtP po).take po.length=(wtP po):=List.take_of_length_le (by omega)
  refine zg12 ?_
  simp only [hE0,hE1,hE2,hE3]
  exact retC [1001,1002,1003,1004] rfl rfl rfl cs (at_all cs rfl) T57 (.agg (.cons (imm_refm ratE rfl rfl hn0.symm) (.cons (imm_refm ratE rfl rfl hn1.symm) (.cons (imm_refm ratE rfl rfl hn2.symm) (.cons (imm_refm ratE rfl rfl hn3.symm) .nil)))))
namespace H_c_Dom2
theorem zSm {p q:Prop} (k:q) (e:p=q:=by simp only [e1,e2,e3,e4,p1,p2,p3,q1,q2,q3,l1,t0,t1,r1,r2,r3,r4,Nat.zero_add,Nat.reduceMul,Nat.reduceAdd,b1,b2,b3,b4,b5,b6,i1,i2,i3,i4,i5,i6,Nat.reduceBEq,dfq,hkl,hlo,hhi,List.length_map,List.set_cons_zero,List.set_cons_succ,Nat.reduceEqDiff,reduceIte,if_true,if_false,ptL_kill,poL_kill,kills_map ptE,kills_map poE,kills_map ratE,ratL_kill,spL_kill,LV.kill,kills];exact rfl):p:=e.mpr k
end H_c_Dom2
open H_c_Dom2 in
theorem c_Dom2 (d:Nat) (a b:Rat) (po:List PoR) (ha:rl a≤100) (hb:rl b≤100) (hab:a<b) (h9:d≤6):CallP Tryz.prog 141 [.agg [nI64 d,.list 3 ((kn2 d a b).map ratL),.list 12 (po.map poL)]] (spL (a,b)):=by
 have hkl:=kn2_len d a b
 have hlo:=kn2_lo d a b
 have hhi:=kn2_hi d a b
 have hcp:LV.pure (.agg [nI64 d,.list 3 ((kn2 d a b).map ratL),.list 12 (po.map poL)])=true:=by simp [LV.pure,pures,pures_map ratE,pures_map poE]
 have hS:=c_SOf a b (by omega)
 rw [mn_lt2 hab,mx_lt2 hab] at hS
 refine fnP Tryz.func141 ?_
 refine zg15 ?_
 refine wl_if rfl (fun h6r h6=>?_) (fun h6r h6=>?_)
 ·omega
 ·refine zg3 ?_
  refine wl_regD 13 (by decide +kernel) ?_
  refine zg9 ?_
  refine st_pure rfl (.bin rfl rfl (sub1N (by omega) (by omega))) ?_
  refine zg2 ?_
  try simp only [t1,dfq,hkl,hlo,hhi,List.length_map]
  refine cp am2 (hS) ?_
  refine zg4 ?_
  exact retC [] rfl rfl rfl (spE.csize _) (spL_all _) T42 (.pure (spE.pure _))
namespace H_c_own2
theorem zSm {p q:Prop} (k:q) (e:p=q:=by simp only [e1,e2,e3,e4,p1,p2,p3,q1,q2,q3,l1,t0,t1,r1,r2,r3,r4,Nat.zero_add,Nat.reduceMul,Nat.reduceAdd,b1,b2,b3,b4,b5,b6,i1,i2,i3,i4,i5,i6,Nat.reduceBEq,List.set_cons_zero,List.set_cons_succ,Nat.reduceEqDiff,reduceIte,if_true,if_false,ptL_kill,poL_kill,kills_map ptE,kills_map poE,kills_map ratE,ratL_kill,spL_kill,LV.kill,kills];exact rfl):p:=e.mpr k
end H_c_own2
open H_c_own2 in
theorem c_own2 (d:Nat) (a b:Rat) (po:List PoR) (ha:rl a≤100) (hb:rl b≤100) (hab:a<b) (h9:d≤6) (t x:Rat) (ht:rl t≤100) (h1:a≤t) (h2:t≤b) (hx:(t-a)/(b-a)=x) (hp0:0<po.length):CallP Tryz.prog 123 [.agg [nI64 d,.list 3 ((kn2 d a b).map ratL),.list 12 (po.map poL)],ratL t] (.tup [ratL x,ratL (b-a),bL true]):=by
 have hkl:=kn2_len d a b
 have hlo:=kn2_lo d a b
 have hhi:=kn2_hi d a b
 have hcp:LV.pure (.agg [nI64 d,.list 3 ((kn2 d a b).map ratL),.list 12 (po.map poL)])=true:=by simp [LV.pure,pures,pures_map ratE,pures_map poE]
 have hz1:=rl_sub t a
 have hz2:=rl_sub b a
 have hD:=c_Dom2 d a b po ha hb hab h9
 have hW:CallP Tryz.prog 140 [spL (a,b)] (ratL (b-a)):=c_SWidth (a,b) (by show rl b+rl a≤_;omega)
 have hQ:CallP Tryz.prog 125 [ratL (t-a),ratL (b-a)] (.tup [ratL x,iL 0]):=by
  have:=c_RQuo (t-a) (b-a) (by omega)
  rw [if_neg (by grind),hx] at this
  exact this
 have hH:CallP Tryz.prog 216 [spL (a,b),ratL t] (bL true):=by
  have:=c_SHas (a,b) t (by show rl a+rl t≤_;omega) (by show rl t+rl b≤_;omega)
  unfold hasR at this
  rw [decide_eq_true h1,decide_eq_true h2] at this
  exact this
 refine fnP Tryz.func123 (ht:=(tame3 (ratE.pure _) (ratE.pure _) rfl)) ?_
 refine zg12 ?_
 refine cp am1 (hD) ?_
 refine zg12 ?_
 refine op_if 15 rfl (fun h15r h15=>?_) (fun h15r h15=>?_)
 ·omega
 ·refine zg2 ?_
  refine cp am2 (hH) ?_
  refine zg4 ?_
  refine wl_if rfl (fun h20r h20=>?_) (fun h20r h20=>?_)
  ·first | exact h20.elim | cases h20r
  ·refine zg5 ?_
   refine cp am1 (hW) ?_
   refine zg4 ?_
   refine wl_regF 9 [8] (by decide +kernel) ?_
   refine zg3 ?_
   refine cp am2 (c_RSub t a (by omega)) ?_
   refine zg1 ?_
   refine cp am2 (hQ) ?_
   refine zg8 ?_
   refine wl_regA ?_
   refine any_3 0 1 2 _ _ _ (by decide +kernel) rfl rfl rfl ?_ ?_ ?_
   ·refine zg1 ?_
    refine st_nil ?_
    refine any_3 1 2 4 _ _ _ (by decide +kernel) rfl rfl rfl ?_ ?_ ?_
    ·refine zg1 ?_
     refine st_nil ?_
     refine any_2 2 4 _ _ (by decide +kernel) rfl rfl ?_ ?_
     ·refine zg1 ?_
      refine st_nil ?_
      refine any_2 3 4 _ _ (by decide +kernel) rfl rfl ?_ ?_
      ·refine zg1 ?_
       refine st_nil ?_
       refine any_1 4 _ (by decide +kernel) rfl ?_
       refine zg1 ?_
       refine st_nil ?_
       refine any_1 5 _ (by decide +kernel) rfl ?_
       refine zg1 ?_
       refine st_nil ?_
       refine any_1 6 _ (by decide +kernel) rfl ?_
       refine zg1 ?_
       refine st_nil ?_
       refine any_0 (by decide +kernel) ?_
       refine zg2 ?_
       exact retCCT [] rfl rfl rfl (ratE.csize _) (ratL_all _) T29 (.pure (ratE.pure _)) rfl rfl (ratE.csize _) (ratL_all _) T29 (.pure (ratE.pure _)) rfl (.pure rfl)
      ·refine zg1 ?_
       refine st_nil ?_
       refine any_2 3 5 _ _ (by decide +kernel) rfl rfl ?_ ?_
       ·refine zg1 ?_
        refine st_nil ?_
        refine any_1 5 _ (by decide +kernel) rfl ?_
        refine zg1 ?_
        refine st_nil ?_
        refine any_1 6 _ (by decide +kernel) rfl ?_
        refine zg1 ?_
        refine st_nil ?_
        refine any_0 (by decide +kernel) ?_
        refine zg2 ?_
        exact retCCT [] rfl rfl rfl (ratE.csize _) (ratL_all _) T29 (.pure (ratE.pure _)) rfl rfl (ratE.csize _) (ratL_all _) T29 (.pure (ratE.pure _)) rfl (.pure rfl)
       ·refine zg1 ?_
        refine st_nil ?_
        refine any_1 3 _ (by decide +kernel) rfl ?_
        refine zg1 ?_
        refine st_nil ?_
        refine any_1 6 _ (by decide +kernel) rfl ?_
        refine zg1 ?_
        refine st_nil ?_
        refine any_0 (by decide +kernel) ?_
        refine zg2 ?_
        exact retCCT [] rfl rfl rfl (ratE.csize _) (ratL_all _) T29 (.pure (ratE.pure _)) rfl rfl (ratE.csize _) (ratL_all _) T29 (.pure (ratE.pure _)) rfl (.pure rfl)
     ·refine zg1 ?_
      refine st_nil ?_
      refine any_2 2 5 _ _ (by decide +kernel) rfl rfl ?_ ?_
      ·refine zg1 ?_
       refine st_nil ?_
       refine any_2 3 5 _ _ (by decide +kernel) rfl rfl ?_ ?_
       ·refine zg1 ?_
        refine st_nil ?_
        refine any_1 5 _ (by decide +kernel) rfl ?_
        refine zg1 ?_
        refine st_nil ?_
        refine any_1 6 _ (by decide +kernel) rfl ?_
        refine zg1 ?_
        refine st_nil ?_
        refine any_0 (by decide +kernel) ?_
        refine zg2 ?_
        exact retCCT [] rfl rfl rfl (ratE.csize _) (ratL_all _) T29 (.pure (ratE.pure _)) rfl rfl (ratE.csize _) (ratL_all _) T29 (.pure (ratE.pure _)) rfl (.pure rfl)
       ·refine zg1 ?_
        refine st_nil ?_
        refine any_1 3 _ (by decide +kernel) rfl ?_
        refine zg1 ?_
        refine st_nil ?_
        refine any_1 6 _ (by decide +kernel) rfl ?_
        refine zg1 ?_
        refine st_nil ?_
        refine any_0 (by decide +kernel) ?_
        refine zg2 ?_
        exact retCCT [] rfl rfl rfl (ratE.csize _) (ratL_all _) T29 (.pure (ratE.pure _)) rfl rfl (ratE.csize _) (ratL_all _) T29 (.pure (ratE.pure _)) rfl (.pure rfl)
      ·refine zg1 ?_
       refine st_nil ?_
       refine any_1 2 _ (by decide +kernel) rfl ?_
       refine zg1 ?_
       refine st_nil ?_
       refine any_1 3 _ (by decide +kernel) rfl ?_
       refine zg1 ?_
       refine st_nil ?_
       refine any_1 6 _ (by decide +kernel) rfl ?_
       refine zg1 ?_
       refine st_nil ?_
       refine any_0 (by decide +kernel) ?_
       refine zg2 ?_
       exact retCCT [] rfl rfl rfl (ratE.csize _) (ratL_all _) T29 (.pure (ratE.pure _)) rfl rfl (ratE.csize _) (ratL_all _) T29 (.pure (ratE.pure _)) rfl (.pure rfl)
    ·refine zg1 ?_
     refine st_nil ?_
     refine any_3 1 3 4 _ _ _ (by decide +kernel) rfl rfl rfl ?_ ?_ ?_
     ·refine zg1 ?_
      refine st_nil ?_
      refine any_2 3 4 _ _ (by decide +kernel) rfl rfl ?_ ?_
      ·refine zg1 ?_
       refine st_nil ?_
       refine any_1 4 _ (by decide +kernel) rfl ?_
       refine zg1 ?_
       refine st_nil ?_
       refine any_1 5 _ (by decide +kernel) rfl ?_
       refine zg1 ?_
       refine st_nil ?_
       refine any_1 6 _ (by decide +kernel) rfl ?_
       refine zg1 ?_
       refine st_nil ?_
       refine any_0 (by decide +kernel) ?_
       refine zg2 ?_
       exact retCCT [] rfl rfl rfl (ratE.csize _) (ratL_all _) T29 (.pure (ratE.pure _)) rfl rfl (ratE.csize _) (ratL_all _) T29 (.pure (ratE.pure _)) rfl (.pure rfl)
      ·refine zg1 ?_
       refine st_nil ?_
       refine any_2 3 5 _ _ (by decide +kernel) rfl rfl ?_ ?_
       ·refine zg1 ?_
        refine st_nil ?_
        refine any_1 5 _ (by decide +kernel) rfl ?_
        refine zg1 ?_
        refine st_nil ?_
        refine any_1 6 _ (by decide +kernel) rfl ?_
        refine zg1 ?_
        refine st_nil ?_
        refine any_0 (by decide +kernel) ?_
        refine zg2 ?_
        exact retCCT [] rfl rfl rfl (ratE.csize _) (ratL_all _) T29 (.pure (ratE.pure _)) rfl rfl (ratE.csize _) (ratL_all _) T29 (.pure (ratE.pure _)) rfl (.pure rfl)
       ·refine zg1 ?_
        refine st_nil ?_
        refine any_1 3 _ (by decide +kernel) rfl ?_
        refine zg1 ?_
        refine st_nil ?_
        refine any_1 6 _ (by decide +kernel) rfl ?_
        refine zg1 ?_
        refine st_nil ?_
        refine any_0 (by decide +kernel) ?_
        refine zg2 ?_
        exact retCCT [] rfl rfl rfl (ratE.csize _) (ratL_all _) T29 (.pure (ratE.pure _)) rfl rfl (ratE.csize _) (ratL_all _) T29 (.pure (ratE.pure _)) rfl (.pure rfl)
     ·refine zg1 ?_
      refine st_nil ?_
      refine any_2 1 4 _ _ (by decide +kernel) rfl rfl ?_ ?_
      ·refine zg1 ?_
       refine st_nil ?_
       refine any_1 4 _ (by decide +kernel) rfl ?_
       refine zg1 ?_
       refine st_nil ?_
       refine any_1 5 _ (by decide +kernel) rfl ?_
       refine zg1 ?_
       refine st_nil ?_
       refine any_1 6 _ (by decide +kernel) rfl ?_
       refine zg1 ?_
       refine st_nil ?_
       refine any_0 (by decide +kernel) ?_
       refine zg2 ?_
       exact retCCT [] rfl rfl rfl (ratE.csize _) (ratL_all _) T29 (.pure (ratE.pure _)) rfl rfl (ratE.csize _) (ratL_all _) T29 (.pure (ratE.pure _)) rfl (.pure rfl)
      ·refine zg1 ?_
       refine st_nil ?_
       refine any_1 1 _ (by decide +kernel) rfl ?_
       refine zg1 ?_
       refine st_nil ?_
       refine any_1 5 _ (by decide +kernel) rfl ?_
       refine zg1 ?_
       refine st_nil ?_
       refine any_1 6 _ (by decide +kernel) rfl ?_
       refine zg1 ?_
       refine st_nil ?_
       refine any_0 (by decide +kernel) ?_
       refine zg2 ?_
       exact retCCT [] rfl rfl rfl (ratE.csize _) (ratL_all _) T29 (.pure (ratE.pure _)) rfl rfl (ratE.csize _) (ratL_all _) T29 (.pure (ratE.pure _)) rfl (.pure rfl)
     ·refine zg1 ?_
      refine st_nil ?_
      refine any_2 1 3 _ _ (by decide +kernel) rfl rfl ?_ ?_
      ·refine zg1 ?_
       refine st_nil ?_
       refine any_2 3 5 _ _ (by decide +kernel) rfl rfl ?_ ?_
       ·refine zg1 ?_
        refine st_nil ?_
        refine any_1 5 _ (by decide +kernel) rfl ?_
        refine zg1 ?_
        refine st_nil ?_
        refine any_1 6 _ (by decide +kernel) rfl ?_
        refine zg1 ?_
        refine st_nil ?_
        refine any_0 (by decide +kernel) ?_
        refine zg2 ?_
        exact retCCT [] rfl rfl rfl (ratE.csize _) (ratL_all _) T29 (.pure (ratE.pure _)) rfl rfl (ratE.csize _) (ratL_all _) T29 (.pure (ratE.pure _)) rfl (.pure rfl)
       ·refine zg1 ?_
        refine st_nil ?_
        refine any_1 3 _ (by decide +kernel) rfl ?_
        refine zg1 ?_
        refine st_nil ?_
        refine any_1 6 _ (by decide +kernel) rfl ?_
        refine zg1 ?_
        refine st_nil ?_
        refine any_0 (by decide +kernel) ?_
        refine zg2 ?_
        exact retCCT [] rfl rfl rfl (ratE.csize _) (ratL_all _) T29 (.pure (ratE.pure _)) rfl rfl (ratE.csize _) (ratL_all _) T29 (.pure (ratE.pure _)) rfl (.pure rfl)
      ·refine zg1 ?_
       refine st_nil ?_
       refine any_1 1 _ (by decide +kernel) rfl ?_
       refine zg1 ?_
       refine st_nil ?_
       refine any_1 5 _ (by decide +kernel) rfl ?_
       refine zg1 ?_
       refine st_nil ?_
       refine any_1 6 _ (by decide +kernel) rfl ?_
       refine zg1 ?_
       refine st_nil ?_
       refine any_0 (by decide +kernel) ?_
       refine zg2 ?_
       exact retCCT [] rfl rfl rfl (ratE.csize _) (ratL_all _) T29 (.pure (ratE.pure _)) rfl rfl (ratE.csize _) (ratL_all _) T29 (.pure (ratE.pure _)) rfl (.pure rfl)
    ·refine zg1 ?_
     refine st_nil ?_
     refine any_2 1 2 _ _ (by decide +kernel) rfl rfl ?_ ?_
     ·refine zg1 ?_
      refine st_nil ?_
      refine any_2 2 5 _ _ (by decide +kernel) rfl rfl ?_ ?_
      ·refine zg1 ?_
       refine st_nil ?_
       refine any_2 3 5 _ _ (by decide +kernel) rfl rfl ?_ ?_
       ·refine zg1 ?_
        refine st_nil ?_
        refine any_1 5 _ (by decide +kernel) rfl ?_
        refine zg1 ?_
        refine st_nil ?_
        refine any_1 6 _ (by decide +kernel) rfl ?_
        refine zg1 ?_
        refine st_nil ?_
        refine any_0 (by decide +kernel) ?_
        refine zg2 ?_
        exact retCCT [] rfl rfl rfl (ratE.csize _) (ratL_all _) T29 (.pure (ratE.pure _)) rfl rfl (ratE.csize _) (ratL_all _) T29 (.pure (ratE.pure _)) rfl (.pure rfl)
       ·refine zg1 ?_
        refine st_nil ?_
        refine any_1 3 _ (by decide +kernel) rfl ?_
        refine zg1 ?_
        refine st_nil ?_
        refine any_1 6 _ (by decide +kernel) rfl ?_
        refine zg1 ?_
        refine st_nil ?_
        refine any_0 (by decide +kernel) ?_
        refine zg2 ?_
        exact retCCT [] rfl rfl rfl (ratE.csize _) (ratL_all _) T29 (.pure (ratE.pure _)) rfl rfl (ratE.csize _) (ratL_all _) T29 (.pure (ratE.pure _)) rfl (.pure rfl)
      ·refine zg1 ?_
       refine st_nil ?_
       refine any_1 2 _ (by decide +kernel) rfl ?_
       refine zg1 ?_
       refine st_nil ?_
       refine any_1 3 _ (by decide +kernel) rfl ?_
       refine zg1 ?_
       refine st_nil ?_
       refine any_1 6 _ (by decide +kernel) rfl ?_
       refine zg1 ?_
       refine st_nil ?_
       refine any_0 (by decide +kernel) ?_
       refine zg2 ?_
       exact retCCT [] rfl rfl rfl (ratE.csize _) (ratL_all _) T29 (.pure (ratE.pure _)) rfl rfl (ratE.csize _) (ratL_all _) T29 (.pure (ratE.pure _)) rfl (.pure rfl)
     ·refine zg1 ?_
      refine st_nil ?_
      refine any_2 1 3 _ _ (by decide +kernel) rfl rfl ?_ ?_
      ·refine zg1 ?_
       refine st_nil ?_
       refine any_2 3 5 _ _ (by decide +kernel) rfl rfl ?_ ?_
       ·refine zg1 ?_
        refine st_nil ?_
        refine any_1 5 _ (by decide +kernel) rfl ?_
        refine zg1 ?_
        refine st_nil ?_
        refine any_1 6 _ (by decide +kernel) rfl ?_
        refine zg1 ?_
        refine st_nil ?_
        refine any_0 (by decide +kernel) ?_
        refine zg2 ?_
        exact retCCT [] rfl rfl rfl (ratE.csize _) (ratL_all _) T29 (.pure (ratE.pure _)) rfl rfl (ratE.csize _) (ratL_all _) T29 (.pure (ratE.pure _)) rfl (.pure rfl)
       ·refine zg1 ?_
        refine st_nil ?_
        refine any_1 3 _ (by decide +kernel) rfl ?_
        refine zg1 ?_
        refine st_nil ?_
        refine any_1 6 _ (by decide +kernel) rfl ?_
        refine zg1 ?_
        refine st_nil ?_
        refine any_0 (by decide +kernel) ?_
        refine zg2 ?_
        exact retCCT [] rfl rfl rfl (ratE.csize _) (ratL_all _) T29 (.pure (ratE.pure _)) rfl rfl (ratE.csize _) (ratL_all _) T29 (.pure (ratE.pure _)) rfl (.pure rfl)
      ·refine zg1 ?_
       refine st_nil ?_
       refine any_1 1 _ (by decide +kernel) rfl ?_
       refine zg1 ?_
       refine st_nil ?_
       refine any_1 5 _ (by decide +kernel) rfl ?_
       refine zg1 ?_
       refine st_nil ?_
       refine any_1 6 _ (by decide +kernel) rfl ?_
       refine zg1 ?_
       refine st_nil ?_
       refine any_0 (by decide +kernel) ?_
       refine zg2 ?_
       exact retCCT [] rfl rfl rfl (ratE.csize _) (ratL_all _) T29 (.pure (ratE.pure _)) rfl rfl (ratE.csize _) (ratL_all _) T29 (.pure (ratE.pure _)) rfl (.pure rfl)
   ·refine zg1 ?_
    refine st_nil ?_
    refine any_2 0 2 _ _ (by decide +kernel) rfl rfl ?_ ?_
    ·refine zg1 ?_
     refine st_nil ?_
     refine any_2 2 4 _ _ (by decide +kernel) rfl rfl ?_ ?_
     ·refine zg1 ?_
      refine st_nil ?_
      refine any_2 3 4 _ _ (by decide +kernel) rfl rfl ?_ ?_
      ·refine zg1 ?_
       refine st_nil ?_
       refine any_1 4 _ (by decide +kernel) rfl ?_
       refine zg1 ?_
       refine st_nil ?_
       refine any_1 5 _ (by decide +kernel) rfl ?_
       refine zg1 ?_
       refine st_nil ?_
       refine any_1 6 _ (by decide +kernel) rfl ?_
       refine zg1 ?_
       refine st_nil ?_
       refine any_0 (by decide +kernel) ?_
       refine zg2 ?_
       exact retCCT [] rfl rfl rfl (ratE.csize _) (ratL_all _) T29 (.pure (ratE.pure _)) rfl rfl (ratE.csize _) (ratL_all _) T29 (.pure (ratE.pure _)) rfl (.pure rfl)
      ·refine zg1 ?_
       refine st_nil ?_
       refine any_2 3 5 _ _ (by decide +kernel) rfl rfl ?_ ?_
       ·refine zg1 ?_
        refine st_nil ?_
        refine any_1 5 _ (by decide +kernel) rfl ?_
        refine zg1 ?_
        refine st_nil ?_
        refine any_1 6 _ (by decide +kernel) rfl ?_
        refine zg1 ?_
        refine st_nil ?_
        refine any_0 (by decide +kernel) ?_
        refine zg2 ?_
        exact retCCT [] rfl rfl rfl (ratE.csize _) (ratL_all _) T29 (.pure (ratE.pure _)) rfl rfl (ratE.csize _) (ratL_all _) T29 (.pure (ratE.pure _)) rfl (.pure rfl)
       ·refine zg1 ?_
        refine st_nil ?_
        refine any_1 3 _ (by decide +kernel) rfl ?_
        refine zg1 ?_
        refine st_nil ?_
        refine any_1 6 _ (by decide +kernel) rfl ?_
        refine zg1 ?_
        refine st_nil ?_
        refine any_0 (by decide +kernel) ?_
        refine zg2 ?_
        exact retCCT [] rfl rfl rfl (ratE.csize _) (ratL_all _) T29 (.pure (ratE.pure _)) rfl rfl (ratE.csize _) (ratL_all _) T29 (.pure (ratE.pure _)) rfl (.pure rfl)
     ·refine zg1 ?_
      refine st_nil ?_
      refine any_2 2 5 _ _ (by decide +kernel) rfl rfl ?_ ?_
      ·refine zg1 ?_
       refine st_nil ?_
       refine any_2 3 5 _ _ (by decide +kernel) rfl rfl ?_ ?_
       ·refine zg1 ?_
        refine st_nil ?_
        refine any_1 5 _ (by decide +kernel) rfl ?_
        refine zg1 ?_
        refine st_nil ?_
        refine any_1 6 _ (by decide +kernel) rfl ?_
        refine zg1 ?_
        refine st_nil ?_
        refine any_0 (by decide +kernel) ?_
        refine zg2 ?_
        exact retCCT [] rfl rfl rfl (ratE.csize _) (ratL_all _) T29 (.pure (ratE.pure _)) rfl rfl (ratE.csize _) (ratL_all _) T29 (.pure (ratE.pure _)) rfl (.pure rfl)
       ·refine zg1 ?_
        refine st_nil ?_
        refine any_1 3 _ (by decide +kernel) rfl ?_
        refine zg1 ?_
        refine st_nil ?_
        refine any_1 6 _ (by decide +kernel) rfl ?_
        refine zg1 ?_
        refine st_nil ?_
        refine any_0 (by decide +kernel) ?_
        refine zg2 ?_
        exact retCCT [] rfl rfl rfl (ratE.csize _) (ratL_all _) T29 (.pure (ratE.pure _)) rfl rfl (ratE.csize _) (ratL_all _) T29 (.pure (ratE.pure _)) rfl (.pure rfl)
      ·refine zg1 ?_
       refine st_nil ?_
       refine any_1 2 _ (by decide +kernel) rfl ?_
       refine zg1 ?_
       refine st_nil ?_
       refine any_1 3 _ (by decide +kernel) rfl ?_
       refine zg1 ?_
       refine st_nil ?_
       refine any_1 6 _ (by decide +kernel) rfl ?_
       refine zg1 ?_
       refine st_nil ?_
       refine any_0 (by decide +kernel) ?_
       refine zg2 ?_
       exact retCCT [] rfl rfl rfl (ratE.csize _) (ratL_all _) T29 (.pure (ratE.pure _)) rfl rfl (ratE.csize _) (ratL_all _) T29 (.pure (ratE.pure _)) rfl (.pure rfl)
    ·refine zg1 ?_
     refine st_nil ?_
     refine any_2 0 3 _ _ (by decide +kernel) rfl rfl ?_ ?_
     ·refine zg1 ?_
      refine st_nil ?_
      refine any_2 3 4 _ _ (by decide +kernel) rfl rfl ?_ ?_
      ·refine zg1 ?_
       refine st_nil ?_
       refine any_1 4 _ (by decide +kernel) rfl ?_
       refine zg1 ?_
       refine st_nil ?_
       refine any_1 5 _ (by decide +kernel) rfl ?_
       refine zg1 ?_
       refine st_nil ?_
       refine any_1 6 _ (by decide +kernel) rfl ?_
       refine zg1 ?_
       refine st_nil ?_
       refine any_0 (by decide +kernel) ?_
       refine zg2 ?_
       exact retCCT [] rfl rfl rfl (ratE.csize _) (ratL_all _) T29 (.pure (ratE.pure _)) rfl rfl (ratE.csize _) (ratL_all _) T29 (.pure (ratE.pure _)) rfl (.pure rfl)
      ·refine zg1 ?_
       refine st_nil ?_
       refine any_2 3 5 _ _ (by decide +kernel) rfl rfl ?_ ?_
       ·refine zg1 ?_
        refine st_nil ?_
        refine any_1 5 _ (by decide +kernel) rfl ?_
        refine zg1 ?_
        refine st_nil ?_
        refine any_1 6 _ (by decide +kernel) rfl ?_
        refine zg1 ?_
        refine st_nil ?_
        refine any_0 (by decide +kernel) ?_
        refine zg2 ?_
        exact retCCT [] rfl rfl rfl (ratE.csize _) (ratL_all _) T29 (.pure (ratE.pure _)) rfl rfl (ratE.csize _) (ratL_all _) T29 (.pure (ratE.pure _)) rfl (.pure rfl)
       ·refine zg1 ?_
        refine st_nil ?_
        refine any_1 3 _ (by decide +kernel) rfl ?_
        refine zg1 ?_
        refine st_nil ?_
        refine any_1 6 _ (by decide +kernel) rfl ?_
        refine zg1 ?_
        refine st_nil ?_
        refine any_0 (by decide +kernel) ?_
        refine zg2 ?_
        exact retCCT [] rfl rfl rfl (ratE.csize _) (ratL_all _) T29 (.pure (ratE.pure _)) rfl rfl (ratE.csize _) (ratL_all _) T29 (.pure (ratE.pure _)) rfl (.pure rfl)
     ·refine zg1 ?_
      refine st_nil ?_
      refine any_1 0 _ (by decide +kernel) rfl ?_
      refine zg1 ?_
      refine st_nil ?_
      refine any_1 4 _ (by decide +kernel) rfl ?_
      refine zg1 ?_
      refine st_nil ?_
      refine any_1 5 _ (by decide +kernel) rfl ?_
      refine zg1 ?_
      refine st_nil ?_
      refine any_1 6 _ (by decide +kernel) rfl ?_
      refine zg1 ?_
      refine st_nil ?_
      refine any_0 (by decide +kernel) ?_
      refine zg2 ?_
      exact retCCT [] rfl rfl rfl (ratE.csize _) (ratL_all _) T29 (.pure (ratE.pure _)) rfl rfl (ratE.csize _) (ratL_all _) T29 (.pure (ratE.pure _)) rfl (.pure rfl)
   ·refine zg1 ?_
    refine st_nil ?_
    refine any_3 0 1 3 _ _ _ (by decide +kernel) rfl rfl rfl ?_ ?_ ?_
    ·refine zg1 ?_
     refine st_nil ?_
     refine any_3 1 3 4 _ _ _ (by decide +kernel) rfl rfl rfl ?_ ?_ ?_
     ·refine zg1 ?_
      refine st_nil ?_
      refine any_2 3 4 _ _ (by decide +kernel) rfl rfl ?_ ?_
      ·refine zg1 ?_
       refine st_nil ?_
       refine any_1 4 _ (by decide +kernel) rfl ?_
       refine zg1 ?_
       refine st_nil ?_
       refine any_1 5 _ (by decide +kernel) rfl ?_
       refine zg1 ?_
       refine st_nil ?_
       refine any_1 6 _ (by decide +kernel) rfl ?_
       refine zg1 ?_
       refine st_nil ?_
       refine any_0 (by decide +kernel) ?_
       refine zg2 ?_
       exact retCCT [] rfl rfl rfl (ratE.csize _) (ratL_all _) T29 (.pure (ratE.pure _)) rfl rfl (ratE.csize _) (ratL_all _) T29 (.pure (ratE.pure _)) rfl (.pure rfl)
      ·refine zg1 ?_
       refine st_nil ?_
       refine any_2 3 5 _ _ (by decide +kernel) rfl rfl ?_ ?_
       ·refine zg1 ?_
        refine st_nil ?_
        refine any_1 5 _ (by decide +kernel) rfl ?_
        refine zg1 ?_
        refine st_nil ?_
        refine any_1 6 _ (by decide +kernel) rfl ?_
        refine zg1 ?_
        refine st_nil ?_
        refine any_0 (by decide +kernel) ?_
        refine zg2 ?_
        exact retCCT [] rfl rfl rfl (ratE.csize _) (ratL_all _) T29 (.pure (ratE.pure _)) rfl rfl (ratE.csize _) (ratL_all _) T29 (.pure (ratE.pure _)) rfl (.pure rfl)
       ·refine zg1 ?_
        refine st_nil ?_
        refine any_1 3 _ (by decide +kernel) rfl ?_
        refine zg1 ?_
        refine st_nil ?_
        refine any_1 6 _ (by decide +kernel) rfl ?_
        refine zg1 ?_
        refine st_nil ?_
        refine any_0 (by decide +kernel) ?_
        refine zg2 ?_
        exact retCCT [] rfl rfl rfl (ratE.csize _) (ratL_all _) T29 (.pure (ratE.pure _)) rfl rfl (ratE.csize _) (ratL_all _) T29 (.pure (ratE.pure _)) rfl (.pure rfl)
     ·refine zg1 ?_
      refine st_nil ?_
      refine any_2 1 4 _ _ (by decide +kernel) rfl rfl ?_ ?_
      ·refine zg1 ?_
       refine st_nil ?_
       refine any_1 4 _ (by decide +kernel) rfl ?_
       refine zg1 ?_
       refine st_nil ?_
       refine any_1 5 _ (by decide +kernel) rfl ?_
       refine zg1 ?_
       refine st_nil ?_
       refine any_1 6 _ (by decide +kernel) rfl ?_
       refine zg1 ?_
       refine st_nil ?_
       refine any_0 (by decide +kernel) ?_
       refine zg2 ?_
       exact retCCT [] rfl rfl rfl (ratE.csize _) (ratL_all _) T29 (.pure (ratE.pure _)) rfl rfl (ratE.csize _) (ratL_all _) T29 (.pure (ratE.pure _)) rfl (.pure rfl)
      ·refine zg1 ?_
       refine st_nil ?_
       refine any_1 1 _ (by decide +kernel) rfl ?_
       refine zg1 ?_
       refine st_nil ?_
       refine any_1 5 _ (by decide +kernel) rfl ?_
       refine zg1 ?_
       refine st_nil ?_
       refine any_1 6 _ (by decide +kernel) rfl ?_
       refine zg1 ?_
       refine st_nil ?_
       refine any_0 (by decide +kernel) ?_
       refine zg2 ?_
       exact retCCT [] rfl rfl rfl (ratE.csize _) (ratL_all _) T29 (.pure (ratE.pure _)) rfl rfl (ratE.csize _) (ratL_all _) T29 (.pure (ratE.pure _)) rfl (.pure rfl)
     ·refine zg1 ?_
      refine st_nil ?_
      refine any_2 1 3 _ _ (by decide +kernel) rfl rfl ?_ ?_
      ·refine zg1 ?_
       refine st_nil ?_
       refine any_2 3 5 _ _ (by decide +kernel) rfl rfl ?_ ?_
       ·refine zg1 ?_
        refine st_nil ?_
        refine any_1 5 _ (by decide +kernel) rfl ?_
        refine zg1 ?_
        refine st_nil ?_
        refine any_1 6 _ (by decide +kernel) rfl ?_
        refine zg1 ?_
        refine st_nil ?_
        refine any_0 (by decide +kernel) ?_
        refine zg2 ?_
        exact retCCT [] rfl rfl rfl (ratE.csize _) (ratL_all _) T29 (.pure (ratE.pure _)) rfl rfl (ratE.csize _) (ratL_all _) T29 (.pure (ratE.pure _)) rfl (.pure rfl)
       ·refine zg1 ?_
        refine st_nil ?_
        refine any_1 3 _ (by decide +kernel) rfl ?_
        refine zg1 ?_
        refine st_nil ?_
        refine any_1 6 _ (by decide +kernel) rfl ?_
        refine zg1 ?_
        refine st_nil ?_
        refine any_0 (by decide +kernel) ?_
        refine zg2 ?_
        exact retCCT [] rfl rfl rfl (ratE.csize _) (ratL_all _) T29 (.pure (ratE.pure _)) rfl rfl (ratE.csize _) (ratL_all _) T29 (.pure (ratE.pure _)) rfl (.pure rfl)
      ·refine zg1 ?_
       refine st_nil ?_
       refine any_1 1 _ (by decide +kernel) rfl ?_
       refine zg1 ?_
       refine st_nil ?_
       refine any_1 5 _ (by decide +kernel) rfl ?_
       refine zg1 ?_
       refine st_nil ?_
       refine any_1 6 _ (by decide +kernel) rfl ?_
       refine zg1 ?_
       refine st_nil ?_
       refine any_0 (by decide +kernel) ?_
       refine zg2 ?_
       exact retCCT [] rfl rfl rfl (ratE.csize _) (ratL_all _) T29 (.pure (ratE.pure _)) rfl rfl (ratE.csize _) (ratL_all _) T29 (.pure (ratE.pure _)) rfl (.pure rfl)
    ·refine zg1 ?_
     refine st_nil ?_
     refine any_2 0 3 _ _ (by decide +kernel) rfl rfl ?_ ?_
     ·refine zg1 ?_
      refine st_nil ?_
      refine any_2 3 4 _ _ (by decide +kernel) rfl rfl ?_ ?_
      ·refine zg1 ?_
       refine st_nil ?_
       refine any_1 4 _ (by decide +kernel) rfl ?_
       refine zg1 ?_
       refine st_nil ?_
       refine any_1 5 _ (by decide +kernel) rfl ?_
       refine zg1 ?_
       refine st_nil ?_
       refine any_1 6 _ (by decide +kernel) rfl ?_
       refine zg1 ?_
       refine st_nil ?_
       refine any_0 (by decide +kernel) ?_
       refine zg2 ?_
       exact retCCT [] rfl rfl rfl (ratE.csize _) (ratL_all _) T29 (.pure (ratE.pure _)) rfl rfl (ratE.csize _) (ratL_all _) T29 (.pure (ratE.pure _)) rfl (.pure rfl)
      ·refine zg1 ?_
       refine st_nil ?_
       refine any_2 3 5 _ _ (by decide +kernel) rfl rfl ?_ ?_
       ·refine zg1 ?_
        refine st_nil ?_
        refine any_1 5 _ (by decide +kernel) rfl ?_
        refine zg1 ?_
        refine st_nil ?_
        refine any_1 6 _ (by decide +kernel) rfl ?_
        refine zg1 ?_
        refine st_nil ?_
        refine any_0 (by decide +kernel) ?_
        refine zg2 ?_
        exact retCCT [] rfl rfl rfl (ratE.csize _) (ratL_all _) T29 (.pure (ratE.pure _)) rfl rfl (ratE.csize _) (ratL_all _) T29 (.pure (ratE.pure _)) rfl (.pure rfl)
       ·refine zg1 ?_
        refine st_nil ?_
        refine any_1 3 _ (by decide +kernel) rfl ?_
        refine zg1 ?_
        refine st_nil ?_
        refine any_1 6 _ (by decide +kernel) rfl ?_
        refine zg1 ?_
        refine st_nil ?_
        refine any_0 (by decide +kernel) ?_
        refine zg2 ?_
        exact retCCT [] rfl rfl rfl (ratE.csize _) (ratL_all _) T29 (.pure (ratE.pure _)) rfl rfl (ratE.csize _) (ratL_all _) T29 (.pure (ratE.pure _)) rfl (.pure rfl)
     ·refine zg1 ?_
      refine st_nil ?_
      refine any_1 0 _ (by decide +kernel) rfl ?_
      refine zg1 ?_
      refine st_nil ?_
      refine any_1 4 _ (by decide +kernel) rfl ?_
      refine zg1 ?_
      refine st_nil ?_
      refine any_1 5 _ (by decide +kernel) rfl ?_
      refine zg1 ?_
      refine st_nil ?_
      refine any_1 6 _ (by decide +kernel) rfl ?_
      refine zg1 ?_
      refine st_nil ?_
      refine any_0 (by decide +kernel) ?_
      refine zg2 ?_
      exact retCCT [] rfl rfl rfl (ratE.csize _) (ratL_all _) T29 (.pure (ratE.pure _)) rfl rfl (ratE.csize _) (ratL_all _) T29 (.pure (ratE.pure _)) rfl (.pure rfl)
    ·refine zg1 ?_
     refine st_nil ?_
     refine any_2 0 1 _ _ (by decide +kernel) rfl rfl ?_ ?_
     ·refine zg1 ?_
      refine st_nil ?_
      refine any_2 1 4 _ _ (by decide +kernel) rfl rfl ?_ ?_
      ·refine zg1 ?_
       refine st_nil ?_
       refine any_1 4 _ (by decide +kernel) rfl ?_
       refine zg1 ?_
       refine st_nil ?_
       refine any_1 5 _ (by decide +kernel) rfl ?_
       refine zg1 ?_
       refine st_nil ?_
       refine any_1 6 _ (by decide +kernel) rfl ?_
       refine zg1 ?_
       refine st_nil ?_
       refine any_0 (by decide +kernel) ?_
       refine zg2 ?_
       exact retCCT [] rfl rfl rfl (ratE.csize _) (ratL_all _) T29 (.pure (ratE.pure _)) rfl rfl (ratE.csize _) (ratL_all _) T29 (.pure (ratE.pure _)) rfl (.pure rfl)
      ·refine zg1 ?_
       refine st_nil ?_
       refine any_1 1 _ (by decide +kernel) rfl ?_
       refine zg1 ?_
       refine st_nil ?_
       refine any_1 5 _ (by decide +kernel) rfl ?_
       refine zg1 ?_
       refine st_nil ?_
       refine any_1 6 _ (by decide +kernel) rfl ?_
       refine zg1 ?_
       refine st_nil ?_
       refine any_0 (by decide +kernel) ?_
       refine zg2 ?_
       exact retCCT [] rfl rfl rfl (ratE.csize _) (ratL_all _) T29 (.pure (ratE.pure _)) rfl rfl (ratE.csize _) (ratL_all _) T29 (.pure (ratE.pure _)) rfl (.pure rfl)
     ·refine zg1 ?_
      refine st_nil ?_
      refine any_1 0 _ (by decide +kernel) rfl ?_
      refine zg1 ?_
      refine st_nil ?_
      refine any_1 4 _ (by decide +kernel) rfl ?_
      refine zg1 ?_
      refine st_nil ?_
      refine any_1 5 _ (by decide +kernel) rfl ?_
      refine zg1 ?_
      refine st_nil ?_
      refine any_1 6 _ (by decide +kernel) rfl ?_
      refine zg1 ?_
      refine st_nil ?_
      refine any_0 (by decide +kernel) ?_
      refine zg2 ?_
      exact retCCT [] rfl rfl rfl (ratE.csize _) (ratL_all _) T29 (.pure (ratE.pure _)) rfl rfl (ratE.csize _) (ratL_all _) T29 (.pure (ratE.pure _)) rfl (.pure rfl)
namespace H_c_FourP
theorem zSm {p q:Prop} (k:q) (e:p=q:=by simp only [e1,e2,e3,e4,p1,p2,p3,q1,q2,q3,l1,t0,t1,r1,r2,r3,r4,Nat.zero_add,Nat.reduceMul,Nat.reduceAdd,b1,b2,b3,b4,b5,b6,i1,i2,i3,i4,i5,i6,Nat.reduceBEq,List.getD_cons_zero,List.set_cons_zero,List.set_cons_succ,Nat.reduceEqDiff,reduceIte,if_true,if_false,ptL_kill,poL_kill,kills_map ptE,kills_map poE,kills_map ratE,ratL_kill,spL_kill,LV.kill,kills];exact rfl):p:=e.mpr k
end H_c_FourP
open H_c_FourP in
theorem c_FourP (n0 n1 n2 w:Rat) (R:Nat) (hR:R≤1000000000) (h0:rl n0≤R) (h1:rl n1≤R) (h2:rl n2≤R) (hw:rl w≤R) (hpos:0<w):CallP Tryz.prog 153 [.agg [ratL n0,ratL n1,ratL n2,ratL w]] (poL ⟨⟨n0/w,n1/w,n2/w⟩,w⟩):=by
 have hA:=c_RAdd w 0 (by have:rl 0=1:=rfl;omega)
 rw [Rat.add_zero] at hA
 have hne:w≠0:=by grind
 have hQ0:CallP Tryz.prog 125 [ratL n0,ratL w] (.tup [ratL (n0/w),iL 0]):=by
  have:=c_RQuo n0 w (by omega)
  rwa [if_neg hne] at this
 have hQ1:CallP Tryz.prog 125 [ratL n1,ratL w] (.tup [ratL (n1/w),iL 0]):=by
  have:=c_RQuo n1 w (by omega)
  rwa [if_neg hne] at this
 have hQ2:CallP Tryz.prog 125 [ratL n2,ratL w] (.tup [ratL (n2/w),iL 0]):=by
  have:=c_RQuo n2 w (by omega)
  rwa [if_neg hne] at this
 refine fnP Tryz.func153 (ht:=(fun g=>LV.ren_pure g _ (poE.pure _))) ?_
 refine zg8 ?_
 try simp only [List.getD_cons_zero]
 refine zg2 ?_
 refine st_pure rfl (.build0 SL29 Z29a) ?_
 refine cp am2 (hA) ?_
 refine s0bd (bdW rfl) ?_
 refine zg11 ?_
 refine wl_unroll ?_
 refine zg6 ?_
 refine wl_condX (b:=_) rfl (by decide) ?_
 refine zg10 ?_
 refine wl_regF 12 [9] (by decide +kernel) ?_
 refine zg6 ?_
 refine cp am2 (hQ0) ?_
 refine zg14 ?_
 refine wl_unroll ?_
 refine zg6 ?_
 refine wl_condX (b:=_) rfl (by decide) ?_
 refine zg10 ?_
 refine wl_regF 12 [9] (by decide +kernel) ?_
 refine zg6 ?_
 refine cp am2 (hQ1) ?_
 refine zg14 ?_
 refine wl_unroll ?_
 refine zg6 ?_
 refine wl_condX (b:=_) rfl (by decide) ?_
 refine zg10 ?_
 refine wl_regF 12 [9] (by decide +kernel) ?_
 refine zg6 ?_
 refine cp am2 (hQ2) ?_
 refine zg14 ?_
 refine wl_unroll ?_
 refine zg6 ?_
 refine wl_condY (b:=_) rfl (by decide) ?_
 refine zg12 ?_
 exact retC [] rfl rfl rfl cs (at_all cs rfl) T100 (.pure pu)
namespace H_c_Cut2
theorem zSm {p q:Prop} (k:q) (e:p=q:=by simp only [e1,e2,e3,e4,p1,p2,p3,q1,q2,q3,l1,t0,t1,r1,r2,r3,r4,Nat.zero_add,Nat.reduceMul,Nat.reduceAdd,b1,b2,b3,b4,b5,b6,i1,i2,i3,i4,i5,i6,Nat.reduceBEq,List.take_zero,etk,ersA,ersB,ers,dfq,hn0,hn1,hn2,hn3,List.length_map,take_map_len,map_snoc,len_snoc,List.length_cons,List.length_nil,List.nil_append,List.map_nil,List.take_nil,List.append_nil,List.set_cons_zero,List.set_cons_succ,Nat.reduceEqDiff,reduceIte,if_true,if_false,ptL_kill,poL_kill,kills_map ptE,kills_map poE,kills_map ratE,ratL_kill,spL_kill,LV.kill,kills];exact rfl):p:=e.mpr k
end H_c_Cut2
open H_c_Cut2 in
theorem c_Cut2 (d:Nat) (a b:Rat) (po:List PoR) (ha:rl a≤100) (hb:rl b≤100) (hab:a<b) (h9:d≤6) (lo hi x y:Rat) (hlo0:rl lo≤100) (hhi0:rl hi≤100) (k1:a≤lo) (k2:lo<hi) (k3:hi≤b) (hx:(lo-a)/(b-a)=x) (hy:(hi-a)/(b-a)=y) (hx1:x<1) (hxr:rl (1-x)+rl x+1≤20) (hyr:rl (1-y)+rl y+1≤20) (R:Nat) (hR:R≤1000000) (h:cvR po d R) (hN:∀ k,∀ z∈nmP po k,rl z≤100000) (hW:∀ z∈wtP po,rl z≤100000) (hx0:0≤x) (hy0:0≤y) (hy1:y≤1):CallP Tryz.prog 55 [.agg [nI64 d,.list 3 ((kn2 d a b).map ratL),.list 12 (po.map poL)],ratL lo,ratL hi] (.tup [.agg [nI64 d,.list 3 ((kn2 d lo hi).map ratL),.list 12 ((cutP po x y).map poL)],iL 0]):=by
 have hl:=h.hl
 have hd:=h.hd
 have h6:=h.h6
 have hcp:LV.pure (.agg [nI64 d,.list 3 ((kn2 d a b).map ratL),.list 12 (po.map poL)])=true:=by simp [LV.pure,pures,pures_map ratE,pures_map poE]
 have hOx:=c_own2 d a b po ha hb hab h9 lo x hlo0 k1 (by grind) hx (by omega)
 have hOy:=c_own2 d a b po ha hb hab h9 hi y hhi0 (by grind) k3 hy (by omega)
 have hcm:¬0≤cmpR lo hi:=fun e=>by have:=cmpR_ge.1 e;grind
 have hrx:rl x≤20:=by omega
 have hry:rl y≤20:=by omega
 have hr0:rl 0=1:=rfl
 have hAl:=c_RAdd lo 0 (by omega)
 have hAh:=c_RAdd hi 0 (by omega)
 rw [Rat.add_zero] at hAl hAh
 have hkl:=kn2_len d lo hi
 have hw3:=cR_wl h
 have hq0:=cR_nl h 0
 have hq1:=cR_nl h 1
 have hq2:=cR_nl h 2
 have hn0:(partF (nmP po 0) x y).length=d+1:=by rw [partF_len];omega
 have hn1:(partF (nmP po 1) x y).length=d+1:=by rw [partF_len];omega
 have hn2:(partF (nmP po 2) x y).length=d+1:=by rw [partF_len];omega
 have hn3:(partF (wtP po) x y).length=d+1:=by rw [partF_len];omega
 have hsy:=rl_sub y x
 have hpu:∀ l:List Rat,pures (l.map ratL)=true:=fun l=>pures_map ratE l
 have hcp4:∀ q0 q1' q2' q3':Rat,LV.pure (.agg [ratL q0,ratL q1',ratL q2',ratL q3'])=true:=fun _ _ _ _=>by simp [LV.pure,pures,ratE.pure]
 have hsx:=rl_sub 1 x
 have hdv:=rl_div (y-x) (1-x)
 have hne:1-x≠0:=by grind
 have hP:∀ p:List Rat,p.length=d+1→(∀ z∈p,rl z≤100000)→CallP Tryz.prog 151 [.list 3 (p.map ratL),ratL x,ratL y] (.list 3 ((partF p x y).map ratL)):=fun p hp hz=>by
  have:=c_Part p x y (by omega) (by omega) (fun z hh=>Nat.le_trans (hz z hh) (by decide)) (by omega) (fun _=>⟨hs_ofL (by omega) (fun z hh=>Nat.le_trans (hz z hh) (by decide)) (by omega),hs_ofL (by rw [hiP_len];omega) (fun z hh=>Nat.le_trans (hi_rl (by omega) hz (by decide) hxr z hh) (by decide)) (by omega)⟩) (fun e=>absurd e hne)
  rwa [part_eq] at this
 have hP0:=hP (nmP po 0) (by omega) (hN 0)
 have hP1:=hP (nmP po 1) (by omega) (hN 1)
 have hP2:=hP (nmP po 2) (by omega) (hN 2)
 have hP3:=hP (wtP po) (by omega) hW
 refine fnP Tryz.func55 (ht:=(tame2 (by simp [LV.pure,pures,pures_map ratE,pures_map poE]) rfl)) ?_
 have etk:True:=trivial
 have ersA:True:=trivial
 have ersB:True:=trivial
 have ers:True:=trivial
 refine zg13 ?_
 refine cp am2 (hOx) ?_
 refine zg15 ?_
 refine cp am2 (hOy) ?_
 refine zg17 ?_
 refine st_pure (guardX (v:=false) rfl rfl ((rfl)) rfl) (.move _) ?_
 refine st_pure (guardX (v:=false) rfl rfl ((rfl)) rfl) (.not rfl) ?_
 refine st_pure rfl (.pickF rfl ((rfl))) ?_
 refine zg1 ?_
 refine st_pure (guardX (v:=false) rfl rfl ((rfl)) rfl) ldA ?_
 refine st_pure (guardX (v:=false) rfl rfl ((rfl)) rfl) ldA ?_
 refine st_callP (guardX (v:=false) rfl rfl ((rfl)) rfl) (.cons im0 (.cons im0 .nil)) (c_RCmp lo hi (by omega)) ?_
 refine st_pure (guardX (v:=false) rfl rfl ((rfl)) rfl) (.bin rfl rfl rfl) ?_
 refine st_pure rfl (.pickF rfl ((rfl))) ?_
 refine zg2 ?_
 refine wl_if rfl (fun h46r h46=>?_) (fun h46r h46=>?_)
 ·first | exact hcm h46 | omega
 ·refine zg11 ?_
  refine cp am1 (c_BNum2 d (kn2 d a b) po R hR h) ?_
  refine zg4 ?_
  refine wl_unroll ?_
  refine zg6 ?_
  refine wl_condX (b:=_) rfl (by decide) ?_
  refine zg17 ?_
  refine cp am3 (hP0) ?_
  refine zg10 ?_
  refine wl_unroll ?_
  refine zg6 ?_
  refine wl_condX (b:=_) rfl (by decide) ?_
  refine zg17 ?_
  refine cp am3 (hP1) ?_
  refine zg10 ?_
  refine wl_unroll ?_
  refine zg6 ?_
  refine wl_condX (b:=_) rfl (by decide) ?_
  refine zg17 ?_
  refine cp am3 (hP2) ?_
  refine zg10 ?_
  refine wl_unroll ?_
  refine zg6 ?_
  refine wl_condX (b:=_) rfl (by decide) ?_
  refine zg17 ?_
  refine cp am3 (hP3) ?_
  refine zg10 ?_
  refine wl_unroll ?_
  refine zg6 ?_
  refine wl_condY (b:=_) rfl (by decide) ?_
  refine zg19 ?_
  refine st_pure rfl (.bin rfl rfl (add1N (by omega))) ?_
  refine st_pure rfl (.bin rfl rfl (mul2N (by omega))) ?_
  refine zg4 ?_
  refine wl_weak ((Weak.cell 17 rfl (fun Z μ w cs h=>rep_crv2 83 3 _ _ Z μ w cs h)).trans (Weak.newB _ 83 3 rfl)) ?_
  refine lp1 (fun(m:Nat) L=>(((((((((St.mk L.slot (hp [(3,⟨3,[.agg [nI64 d,.list 3 ((kn2 d a b).map ratL),.list 12 (po.map poL)]],true⟩),(4,⟨3,[ratL lo],true⟩),(5,⟨3,[ratL hi],true⟩),(6,⟨3,[.agg [.v (.int .i64 0),.v (.slice none 0 0),.v (.slice none 0 0)]],true⟩),(8,⟨3,[ratL x],true⟩),(9,⟨3,[ratL (b-a)],true⟩),(11,⟨3,[ratL y],true⟩),(12,⟨3,[ratL (b-a)],true⟩),(14,⟨4,[.agg [.list 3 ((partF (nmP po 0) x y).map ratL),.list 3 ((partF (nmP po 1) x y).map ratL),.list 3 ((partF (nmP po 2) x y).map ratL),.list 3 ((partF (wtP po) x y).map ratL)]],true⟩),(17,⟨3,[.agg [nI64 d,.ref 83 3 0 m,.v (.slice none 0 0)]],true⟩),(83,⟨3,((kn2 d lo hi).take m).map ratL,true⟩)])).put (some 3) (.eptr 3 3 0 0)).put (some 4) (.eptr 4 3 0 0)).put (some 5) (.eptr 5 3 0 0)).put (some 6) (.eptr 6 3 0 0)).put (some 14) (.eptr 14 4 0 0)).put (some 17) (.eptr 17 3 0 0)).put (some 67) (nI64 (2*(d+1)))).put (some 68) (nI64 m))) (fun m=>m≤2*(d+1)) (fun m=>2*(d+1)-m) 0 (Nat.zero_le _) ?_
  rintro m L2 hm
  refine zg6 ?_
  refine wl_if rfl (fun h69r h69=>?_) (fun h69r h69=>?_)
  ·have hm2:m<2*(d+1):=by omega
   have hdt:((kn2 d lo hi).take m).length=m:=by rw [List.length_take];omega
   have etk:(((kn2 d lo hi).take m).map ratL).take m=((kn2 d lo hi).take m).map ratL:=List.take_of_length_le (by rw [List.length_map];omega)
   refine zg26 ?_
   refine wl_if rfl (fun h75r h75=>?_) (fun h75r h75=>?_)
   ·have hmd:¬m≤d:=by omega
    have ersB:=kn2_stB (a:=lo) (b:=hi) hm2 hmd
    refine zg5 ?_
    refine wl_regD 6 (by decide +kernel) ?_
    refine zg4 ?_
    first | refine cp am2 hAl ?_ | refine cp am2 hAh ?_
    refine zg1 ?_
    first | refine st_store rfl (.app (news:=[ratL lo]) rfl rfl rfl rfl rfl (by rw [List.length_map];omega) (.inl rfl) (by decide) Tryz.underlying33 Tryz.underlying33 Z29a T29 rfl B29 (.inl ⟨82,0,_,rfl,by decide,rfl,rfl,by simp,rfl,by simp [pures,ratE.pure]⟩) (by simp;omega) (by simp;omega) (by decide)) ?_ | refine st_store rfl (.app (news:=[ratL hi]) rfl rfl rfl rfl rfl (by rw [List.length_map];omega) (.inl rfl) (by decide) Tryz.underlying33 Tryz.underlying33 Z29a T29 rfl B29 (.inl ⟨82,0,_,rfl,by decide,rfl,rfl,by simp,rfl,by simp [pures,ratE.pure]⟩) (by simp;omega) (by simp;omega) (by decide)) ?_
    refine zg5 ?_
    refine wl_regW ((Weak.kill _ 19).trans (Weak.kill _ 82)) ?_
    refine st_pure rfl (.bin rfl rfl (add1N (by omega))) ?_
    refine zg3 ?_
    exact nx1 (m+1) (by omega)
   ·have hmd:m≤d:=by omega
    have ersA:=kn2_stA (a:=lo) (b:=hi) hm2 hmd
    refine zg2 ?_
    refine wl_regD 6 (by decide +kernel) ?_
    refine zg4 ?_
    first | refine cp am2 hAl ?_ | refine cp am2 hAh ?_
    refine zg1 ?_
    first | refine st_store rfl (.app (news:=[ratL lo]) rfl rfl rfl rfl rfl (by rw [List.length_map];omega) (.inl rfl) (by decide) Tryz.underlying33 Tryz.underlying33 Z29a T29 rfl B29 (.inl ⟨82,0,_,rfl,by decide,rfl,rfl,by simp,rfl,by simp [pures,ratE.pure]⟩) (by simp;omega) (by simp;omega) (by decide)) ?_ | refine st_store rfl (.app (news:=[ratL hi]) rfl rfl rfl rfl rfl (by rw [List.length_map];omega) (.inl rfl) (by decide) Tryz.underlying33 Tryz.underlying33 Z29a T29 rfl B29 (.inl ⟨82,0,_,rfl,by decide,rfl,rfl,by simp,rfl,by simp [pures,ratE.pure]⟩) (by simp;omega) (by simp;omega) (by decide)) ?_
    refine zg5 ?_
    refine wl_regW ((Weak.kill _ 19).trans (Weak.kill _ 82)) ?_
    refine st_pure rfl (.bin rfl rfl (add1N (by omega))) ?_
    refine zg3 ?_
    exact nx1 (m+1) (by omega)
  ·obtain rfl:m=2*(d+1):=by omega
   have hEk:(kn2 d lo hi).take (2*(d+1))=(kn2 d lo hi):=List.take_of_length_le (by omega)
   simp only [hEk]
   refine zg15 ?_
   refine wl_weak ((Weak.cell 17 rfl (fun Z μ w cs h=>rep_net 117 12 _ _ Z μ w cs h)).trans (Weak.newB _ 117 12 rfl)) ?_
   refine lp1 (fun(j:Nat) L=>(((((((((St.mk L.slot (hp [(3,⟨3,[.agg [nI64 d,.list 3 ((kn2 d a b).map ratL),.list 12 (po.map poL)]],true⟩),(4,⟨3,[ratL lo],true⟩),(5,⟨3,[ratL hi],true⟩),(6,⟨3,[.agg [.v (.int .i64 0),.v (.slice none 0 0),.v (.slice none 0 0)]],true⟩),(8,⟨3,[ratL x],true⟩),(9,⟨3,[ratL (b-a)],true⟩),(11,⟨3,[ratL y],true⟩),(12,⟨3,[ratL (b-a)],true⟩),(14,⟨4,[.agg [.list 3 ((partF (nmP po 0) x y).map ratL),.list 3 ((partF (nmP po 1) x y).map ratL),.list 3 ((partF (nmP po 2) x y).map ratL),.list 3 ((partF (wtP po) x y).map ratL)]],true⟩),(17,⟨3,[.agg [nI64 d,.ref 83 3 0 (2*(d+1)),.ref 117 12 0 j]],true⟩),(83,⟨3,(kn2 d lo hi).map ratL,true⟩),(117,⟨12,((cutP po x y).take j).map poL,true⟩)])).put (some 3) (.eptr 3 3 0 0)).put (some 4) (.eptr 4 3 0 0)).put (some 5) (.eptr 5 3 0 0)).put (some 6) (.eptr 6 3 0 0)).put (some 14) (.eptr 14 4 0 0)).put (some 17) (.eptr 17 3 0 0)).put (some 88) (nI64 (d+1))).put (some 89) (nI64 j))) (fun j=>j≤d+1) (fun j=>d+1-j) 0 (Nat.zero_le _) ?_
   rintro j L3 hj
   refine zg6 ?_
   refine wl_if rfl (fun h90r h90=>?_) (fun h90r h90=>?_)
   ·have hj2:j<d+1:=by omega
    have hpj:=cut_pos h hx0 hx1 hy0 hy1 (j:=j) (by omega)
    have hdt:((cutP po x y).take j).length=j:=by rw [List.length_take,cutP_len];omega
    have etk:(((cutP po x y).take j).map poL).take j=((cutP po x y).take j).map poL:=List.take_of_length_le (by rw [List.length_map];omega)
    have ers:(cutP po x y).take j++[cpQ po x y j]=(cutP po x y).take (j+1):=by
     rw [←cutP_get (x:=x) (y:=y) (show j<po.length by omega),List.take_add_one,List.getD_eq_getElem?_getD,List.getElem?_eq_getElem (by rw [cutP_len];omega)];rfl
    have hcw:rl ((partF (wtP po) x y).getD j 0)≤500000000:=by
     rw [cut_w h hx1 (by omega)]
     exact Nat.le_trans (pc_rl (R:=100000) hxr hyr h6 (by omega) fun i=>getD_rl (by decide) hW i) (by decide)
    have hcn0:rl ((partF (nmP po 0) x y).getD j 0)≤500000000:=by
     rw [cut_n h hx1 0 (by omega)]
     exact Nat.le_trans (pc_rl (R:=100000) hxr hyr h6 (by omega) fun i=>getD_rl (by decide) (hN 0) i) (by decide)
    have hcn1:rl ((partF (nmP po 1) x y).getD j 0)≤500000000:=by
     rw [cut_n h hx1 1 (by omega)]
     exact Nat.le_trans (pc_rl (R:=100000) hxr hyr h6 (by omega) fun i=>getD_rl (by decide) (hN 1) i) (by decide)
    have hcn2:rl ((partF (nmP po 2) x y).getD j 0)≤500000000:=by
     rw [cut_n h hx1 2 (by omega)]
     exact Nat.le_trans (pc_rl (R:=100000) hxr hyr h6 (by omega) fun i=>getD_rl (by decide) (hN 2) i) (by decide)
    have hFP:CallP Tryz.prog 153 [.agg [ratL ((partF (nmP po 0) x y).getD j 0),ratL ((partF (nmP po 1) x y).getD j 0),ratL ((partF (nmP po 2) x y).getD j 0),ratL ((partF (wtP po) x y).getD j 0)]] (poL (cpQ po x y j)):=c_FourP _ _ _ _ 500000000 (by decide) hcn0 hcn1 hcn2 hcw hpj
    refine zg10 ?_
    refine wl_regD 25 (by decide +kernel) ?_
    refine zg23 ?_
    have hcp5:=hcp4 ((partF (nmP po 0) x y).getD j 0) ((partF (nmP po 1) x y).getD j 0) ((partF (nmP po 2) x y).getD j 0) ((partF (wtP po) x y).getD j 0)
    refine cp am1 (hFP) ?_
    refine zg1 ?_
    refine st_store rfl (.app (news:=[poL (cpQ po x y j)]) rfl rfl rfl rfl rfl (by rw [List.length_map];omega) (.inl rfl) (by decide) Tryz.underlying34 Tryz.underlying34 Z100 T100 cs B100 (.inl ⟨116,0,_,rfl,by decide,rfl,rfl,by simp,rfl,by simp [pures,poE.pure]⟩) (by simp;omega) (by simp;omega) (by decide)) ?_
    refine zg5 ?_
    refine wl_regW (Weak.kill _ 116) ?_
    refine st_pure rfl (.bin rfl rfl (add1N (by omega))) ?_
    refine zg3 ?_
    exact nx1 (j+1) (by omega)
   ·obtain rfl:j=d+1:=by omega
    have hEp:(cutP po x y).take (d+1)=(cutP po x y):=List.take_of_length_le (by rw [cutP_len];omega)
    refine zg13 ?_
    simp only [hEp]
    exact retCT [83,117] rfl rfl rfl cs (at_all cs rfl) T36 (.agg (.cons (.pure rfl) (.cons (imm_refm (l:=kn2 d lo hi) ratE rfl rfl hkl.symm) (.cons (imm_refm (l:=cutP po x y) poE rfl rfl (by rw [cutP_len];omega)) .nil)))) rfl (.pure rfl)
end Go.Proofs.YtgfbghoihhnahaaGreat
end
section
set_option linter.unusedVariables false
set_option linter.unusedSimpArgs false
set_option maxHeartbeats 8000000
set_option maxRecDepth 100000
attribute [local irreducible] Go.Lg.opsL Go.Lg.wpL Go.Lg.thenL Go.Lg.blockL
namespace Go.Proofs.YtgfbghoihhnahaaGreat
open Go.Lg
def shL (l:List Rat):Bool:=l.all fun q=>decide (bitR q≤2048)
def shP (po:List PoR):Bool:=po.all fun q=>shL [q.p.x,q.p.y,q.p.z,q.w]
theorem all_no {α:Type} [Inhabited α] {f:α→Bool} {l:List α} {i:Nat} (hi:i<l.length) (h:f (l.getD i default)=false):l.all f=false:=by
 rw [List.all_eq_false]
 exact⟨l.getD i default,getD_memL hi,by rw [h];decide⟩
theorem all_ok {α:Type} [Inhabited α] {f:α→Bool} {l:List α} (h:∀ i,i<l.length→f (l.getD i default)=true):l.all f=true:=by
 rw [List.all_eq_true]
 intro x hx
 obtain⟨i,hi,rfl⟩:=List.mem_iff_getElem.1 hx
 have:=h i hi
 rwa [List.getD_eq_getElem?_getD,List.getElem?_eq_getElem hi] at this
theorem shL_ok {l:List Rat} {R:Nat} (hR:R≤64) (h:∀ x∈l,rl x≤R):shL l=true:=by
 unfold shL
 rw [List.all_eq_true]
 intro x hx
 have:=bitR_le (h x hx)
 exact decide_eq_true (by omega)
theorem shP_ok {po:List PoR} {R:Nat} (hR:R≤64) (h:∀ q∈po,okP R q):shP po=true:=by
 unfold shP
 rw [List.all_eq_true]
 intro q hq
 obtain⟨⟨h1,h2,h3⟩,h4,_⟩:=h q hq
 refine shL_ok hR fun x hx=>?_
 simp only [List.mem_cons,List.not_mem_nil,or_false] at hx
 rcases hx with rfl | rfl | rfl | rfl<;>assumption
theorem ds_first (k:List Rat):∀ n,0<n→(dsN k n).getD 0 0=k.getD 0 0
 | 1,_=>by rw [dsN,if_pos (.inl rfl)];rfl
 | n+2,_=>by
  have ih:=ds_first k (n+1) (by omega)
  have hp:=dsN_pos k (n+1) (by omega)
  rw [dsN];split
  ·rw [gD1 hp];exact ih
  ·exact ih
theorem ds_last (k:List Rat):∀ n,0<n→(dsN k n).getD ((dsN k n).length-1) 0=k.getD (n-1) 0
 | 1,_=>by rw [dsN,if_pos (.inl rfl)];rfl
 | n+2,_=>by
  have ih:=ds_last k (n+1) (by omega)
  rw [dsN];split
  ·rw [List.length_append,List.length_singleton,Nat.add_sub_cancel,gD2 (Nat.le_refl _),Nat.sub_self];rfl
  ·rename_i h
   have h:k.getD (n+1) 0=k.getD (n+1-1) 0:=Classical.byContradiction fun e=>h (.inr e)
   rw [ih,show n+2-1=n+1 by omega,h]
theorem ds_mono {k:List Rat} (hs:∀ i,i+1<k.length→k.getD i 0≤k.getD (i+1) 0):∀ n,0<n→n≤k.length→∀ i j,i<j→j<(dsN k n).length→(dsN k n).getD i 0<(dsN k n).getD j 0
 | 1,_,_,i,j,hij,hj=>by
  have:=dsN_le k 1
  omega
 | n+2,_,hn,i,j,hij,hj=>by
  have ih:=ds_mono hs (n+1) (by omega) (by omega)
  have hl:=ds_last k (n+1) (by omega)
  have hp:=dsN_pos k (n+1) (by omega)
  rw [dsN] at hj ⊢
  split at hj
  ·rename_i h
   rw [if_pos h]
   rw [List.length_append,List.length_singleton] at hj
   have hlt:k.getD n 0<k.getD (n+1) 0:=by
    have h1:=hs n (by omega)
    rcases h with h | h
    ·omega
    ·have h:k.getD (n+1) 0≠k.getD n 0:=h
     grind
   rcases Nat.lt_or_ge j (dsN k (n+1)).length with c | c
   ·rw [gD1 (by omega),gD1 c];exact ih i j hij c
   ·obtain rfl:j=(dsN k (n+1)).length:=by omega
    rw [gD1 (by omega),gD2 (Nat.le_refl _),Nat.sub_self]
    show _<k.getD (n+1) 0
    have hl:(dsN k (n+1)).getD ((dsN k (n+1)).length-1) 0=k.getD n 0:=hl
    rcases Nat.lt_or_ge i ((dsN k (n+1)).length-1) with c2 | c2
    ·have:=ih i ((dsN k (n+1)).length-1) c2 (by omega)
     rw [hl] at this
     grind
    ·obtain rfl:i=(dsN k (n+1)).length-1:=by omega
     rw [hl];exact hlt
  ·rename_i h
   rw [if_neg h];exact ih i j hij hj
theorem ds_tm {k:List Rat} {d:Nat} (h:kOK k d) {i:Nat} (hi:i<(dsN k k.length).length) :
  ((i=0∨i=(dsN k k.length).length-1)→tmN k ((dsN k k.length).getD i 0) k.length=d+1)∧tmN k ((dsN k k.length).getD i 0) k.length≤d+1∧(0<i→i<(dsN k k.length).length-1→tmN k ((dsN k k.length).getD i 0) k.length≤d):=by
 have hl:=h.len
 have h0:0<k.length:=by omega
 have hm:=dsN_mem k k.length (Nat.le_refl _) _ (getD_mem hi)
 have e0:=ds_first k k.length h0
 have e1:=ds_last k k.length h0
 refine⟨fun hc=>h.endk _ hm ?_,?_,fun p q=>?_⟩
 ·rcases hc with rfl | rfl
  ·exact .inl e0
  ·exact .inr e1
 ·by_cases c0:(dsN k k.length).getD i 0=k.getD 0 0
  ·exact Nat.le_of_eq (h.endk _ hm (.inl c0))
  ·by_cases c1:(dsN k k.length).getD i 0=k.getD (k.length-1) 0
   ·exact Nat.le_of_eq (h.endk _ hm (.inr c1))
   ·exact Nat.le_succ_of_le (h.ink _ hm c0 c1)
 ·have m0:=ds_mono h.srt k.length h0 (Nat.le_refl _) 0 i p hi
  have m1:=ds_mono h.srt k.length h0 (Nat.le_refl _) i ((dsN k k.length).length-1) q (by omega)
  rw [e0] at m0
  rw [e1] at m1
  exact h.ink _ hm (by grind) (by grind)
theorem ds_two {k:List Rat} {d:Nat} (h:kOK k d):2≤(dsN k k.length).length:=by
 have hl:=h.len
 have h0:0<k.length:=by omega
 have hp:=dsN_pos k k.length h0
 rcases Nat.lt_or_ge (dsN k k.length).length 2 with c | c
 ·exfalso
  have e0:=ds_first k k.length h0
  have e1:=ds_last k k.length h0
  rw [show (dsN k k.length).length-1=0 by omega,e0] at e1
  exact h.ne e1
 ·exact c
namespace H_c_FRValid
theorem zSm {p q:Prop} (k:q) (e:p=q:=by simp only [e1,e2,e3,e4,p1,p2,p3,q1,q2,q3,l1,t0,t1,r1,r2,r3,r4,Nat.zero_add,Nat.reduceMul,Nat.reduceAdd,b1,b2,b3,b4,b5,b6,i1,i2,i3,i4,i5,i6,Nat.reduceBEq,val_dig,dflt,tz0,List.length_cons,List.length_nil];exact rfl):p:=e.mpr k
end H_c_FRValid
open H_c_FRValid in
theorem c_FRValid (q:Rat) (h:rl q≤68719476736):CallP Tryz.prog 252 [ratL q] (bL true):=by
 have a1:=rl_num q
 have a2:=rl_den q
 have a3:=rl_denN q
 have hne:=denN_ne1 q
 have hg1:=gcd1d q
 have hG:=c_FGcd q.num.natAbs q.den (by omega) (by omega)
 rw [hg1] at hG
 have hk:¬ ((dig (denN q)).length=1∧(dig (denN q)).getD 0 0=1):=fun⟨a,b⟩=>by
  have:=(dig_is1 (n:=denN q) a).1
  omega
 have hz0:(dig q.num.natAbs).length=0→(dig (denN q)).length=0∧¬ q<0:=fun h=>by
  have hz:=num0 h
  subst hz
  exact⟨by decide,by decide +kernel⟩
 have hd1:dig 1=[1]:=dig_small (by decide) (by decide)
 rw [show magL 1=.list 1 ([1].map u32L) from by rw [magL,hd1]] at hG
 refine fnP Tryz.func252 ?_
 refine zg11 ?_
 refine cp am1 (c_FValidD _ (by omega)) ?_
 refine zg4 ?_
 refine cp am1 (c_FValidD _ (by omega)) ?_
 refine zg8 ?_
 refine op_if 19 rfl (fun h19r h19=>?_) (fun h19r h19=>?_)
 ·refine zg8 ?_
  refine op_if 27 rfl (fun h27r h27=>?_) (fun h27r h27=>?_)
  ·exfalso
   omega
  ·refine zg5 ?_
   refine op_if 32 rfl (fun h32r h32=>?_) (fun h32r h32=>?_)
   ·refine zg3 ?_
    refine st_pure (guardX (v:=false) rfl rfl ((decide_eq_false (hz0 (by omega)).2)) rfl) faA ?_
    refine st_pure (guardX (v:=false) rfl rfl ((decide_eq_false (hz0 (by omega)).2)) rfl) ldA ?_
    refine st_pure (guardX (v:=false) rfl rfl ((decide_eq_false (hz0 (by omega)).2)) rfl) lnA ?_
    refine st_pure (guardX (v:=false) rfl rfl ((decide_eq_false (hz0 (by omega)).2)) rfl) (.bin rfl rfl rfl) ?_
    refine st_pure (guardX (v:=true) rfl rfl (h32r) rfl) (.pickF rfl ((decide_eq_false (hz0 (by omega)).2))) ?_
    refine zg4 ?_
    refine wl_condY (b:=_) rfl (decide_eq_false (by have:=(hz0 (by omega)).1;omega)) ?_
    refine zg3 ?_
    refine wl_regD 6 (by decide +kernel) ?_
    refine zg3 ?_
    refine cp am1 (c_FDen _) ?_
    refine cp am2 (hG) ?_
    refine zg9 ?_
    refine st_pure (guardX (v:=true) rfl rfl ((by decide)) rfl) (.move _) ?_
    refine st_pure (guardX (v:=true) rfl rfl ((by decide)) rfl) ixA ?_
    refine st_pure (guardX (v:=true) rfl rfl ((by decide)) rfl) ldA ?_
    refine st_pure (guardX (v:=true) rfl rfl ((by decide)) rfl) (.bin rfl rfl rfl) ?_
    refine st_pure rfl (.pickT rfl ((by decide))) ?_
    refine zg4 ?_
    exact ret1 rfl (by first | exact .pure rfl | exact .pure (limL_pure _) | exact .pure (magL_pure _) | exact .pure (ratE.pure _) | exact .pure (pure_lst u32E _ _) | exact .pure (pure_lst ratE _ _))
   ·refine zg16 ?_
    refine wl_regD 6 (by decide +kernel) ?_
    refine zg3 ?_
    refine cp am1 (c_FDen _) ?_
    refine cp am2 (hG) ?_
    refine zg9 ?_
    refine st_pure (guardX (v:=true) rfl rfl ((by decide)) rfl) (.move _) ?_
    refine st_pure (guardX (v:=true) rfl rfl ((by decide)) rfl) ixA ?_
    refine st_pure (guardX (v:=true) rfl rfl ((by decide)) rfl) ldA ?_
    refine st_pure (guardX (v:=true) rfl rfl ((by decide)) rfl) (.bin rfl rfl rfl) ?_
    refine st_pure rfl (.pickT rfl ((by decide))) ?_
    refine zg4 ?_
    exact ret1 rfl (by first | exact .pure rfl | exact .pure (limL_pure _) | exact .pure (magL_pure _) | exact .pure (ratE.pure _) | exact .pure (pure_lst u32E _ _) | exact .pure (pure_lst ratE _ _))
 ·refine zg13 ?_
  refine op_if 32 rfl (fun h32r h32=>?_) (fun h32r h32=>?_)
  ·refine zg3 ?_
   refine st_pure (guardX (v:=false) rfl rfl ((decide_eq_false (hz0 (by omega)).2)) rfl) faA ?_
   refine st_pure (guardX (v:=false) rfl rfl ((decide_eq_false (hz0 (by omega)).2)) rfl) ldA ?_
   refine st_pure (guardX (v:=false) rfl rfl ((decide_eq_false (hz0 (by omega)).2)) rfl) lnA ?_
   refine st_pure (guardX (v:=false) rfl rfl ((decide_eq_false (hz0 (by omega)).2)) rfl) (.bin rfl rfl rfl) ?_
   refine st_pure (guardX (v:=true) rfl rfl (h32r) rfl) (.pickF rfl ((decide_eq_false (hz0 (by omega)).2))) ?_
   refine zg4 ?_
   refine wl_condY (b:=_) rfl (decide_eq_false (by have:=(hz0 (by omega)).1;omega)) ?_
   refine zg3 ?_
   refine wl_regD 6 (by decide +kernel) ?_
   refine zg3 ?_
   refine cp am1 (c_FDen _) ?_
   refine cp am2 (hG) ?_
   refine zg9 ?_
   refine st_pure (guardX (v:=true) rfl rfl ((by decide)) rfl) (.move _) ?_
   refine st_pure (guardX (v:=true) rfl rfl ((by decide)) rfl) ixA ?_
   refine st_pure (guardX (v:=true) rfl rfl ((by decide)) rfl) ldA ?_
   refine st_pure (guardX (v:=true) rfl rfl ((by decide)) rfl) (.bin rfl rfl rfl) ?_
   refine st_pure rfl (.pickT rfl ((by decide))) ?_
   refine zg4 ?_
   exact ret1 rfl (by first | exact .pure rfl | exact .pure (limL_pure _) | exact .pure (magL_pure _) | exact .pure (ratE.pure _) | exact .pure (pure_lst u32E _ _) | exact .pure (pure_lst ratE _ _))
  ·refine zg16 ?_
   refine wl_regD 6 (by decide +kernel) ?_
   refine zg3 ?_
   refine cp am1 (c_FDen _) ?_
   refine cp am2 (hG) ?_
   refine zg9 ?_
   refine st_pure (guardX (v:=true) rfl rfl ((by decide)) rfl) (.move _) ?_
   refine st_pure (guardX (v:=true) rfl rfl ((by decide)) rfl) ixA ?_
   refine st_pure (guardX (v:=true) rfl rfl ((by decide)) rfl) ldA ?_
   refine st_pure (guardX (v:=true) rfl rfl ((by decide)) rfl) (.bin rfl rfl rfl) ?_
   refine st_pure rfl (.pickT rfl ((by decide))) ?_
   refine zg4 ?_
   exact ret1 rfl (by first | exact .pure rfl | exact .pure (limL_pure _) | exact .pure (magL_pure _) | exact .pure (ratE.pure _) | exact .pure (pure_lst u32E _ _) | exact .pure (pure_lst ratE _ _))
namespace H_c_FValids
theorem zSm {p q:Prop} (k:q) (e:p=q:=by simp only [e1,e2,e3,e4,p1,p2,p3,q1,q2,q3,l1,t0,t1,r1,r2,r3,r4,Nat.zero_add,Nat.reduceMul,Nat.reduceAdd,b1,b2,b3,b4,b5,b6,i1,i2,i3,i4,i5,i6,Nat.reduceBEq,dfq,List.set_cons_zero,List.set_cons_succ,Nat.reduceEqDiff,reduceIte,if_true,if_false,ptL_kill,poL_kill,kills_map ptE,kills_map poE,kills_map ratE,ratL_kill,spL_kill,LV.kill,kills];exact rfl):p:=e.mpr k
end H_c_FValids
open H_c_FValids in
theorem c_FValids (c:List Rat) (hl:c.length≤1048576) (hcR:∀ x∈c,rl x≤68719476736):CallP Tryz.prog 250 [.list 3 (c.map ratL)] (bL true):=by
 refine fnP Tryz.func250 ?_
 refine zg12 ?_
 refine lp1 (fun(k:Nat) L=>(((St.mk L.slot (hp [])).put (some 0) (.list 3 (c.map ratL))).put (some 3) (nI64 k))) (fun k=>k≤c.length) (fun k=>c.length-k) 0 (Nat.zero_le _) ?_
 rintro k L1 hk
 refine zg9 ?_
 refine wl_if rfl (fun h7r h7=>?_) (fun h7r h7=>?_)
 ·have hk2:k<c.length:=by omega
  have hr1:=hcR _ (getD_mem (i:=k) hk2)
  refine zg10 ?_
  refine cp am1 (c_FRValid (c.getD k 0) (by omega)) ?_
  refine zg9 ?_
  refine st_pure rfl (.bin rfl rfl (add1N (by omega))) ?_
  refine zg3 ?_
  exact nx1 (k+1) (by omega)
 ·refine zg11 ?_
  exact ret1 rfl (by first | exact .pure rfl | exact .pure (limL_pure _) | exact .pure (magL_pure _) | exact .pure (ratE.pure _) | exact .pure (pure_lst u32E _ _) | exact .pure (pure_lst ratE _ _))
namespace H_c_FRBits
theorem zSm {p q:Prop} (k:q) (e:p=q:=by simp only [e1,e2,e3,e4,p1,p2,p3,q1,q2,q3,l1,t0,t1,r1,r2,r3,r4,Nat.zero_add,Nat.reduceMul,Nat.reduceAdd,b1,b2,b3,b4,b5,b6,i1,i2,i3,i4,i5,i6,Nat.reduceBEq,val_dig];exact rfl):p:=e.mpr k
end H_c_FRBits
open H_c_FRBits in
theorem c_FRBits (q:Rat) (h:rl q≤1000000):CallP Tryz.prog 318 [ratL q] (nI64 (bitR q)):=by
 have a1:=rl_num q
 have a2:=rl_den q
 have a3:=rl_denN q
 refine fnP Tryz.func318 ?_
 refine zg7 ?_
 refine wl_regD 8 (by decide +kernel) ?_
 refine zg2 ?_
 refine cp am1 (c_FBits _ (by omega)) ?_
 refine zg1 ?_
 refine cp am1 (c_FDen _) ?_
 refine cp am1 (c_FBits _ (by omega)) ?_
 refine zg5 ?_
 rw [bitR]
 refine ret1 ?_ (.pure rfl)
 simp only [e1,e2,e3,e4,p1,p2,p3,q1,q2,q3,Nat.reduceBEq,val_dig]
 congr 2
 omega
namespace H_c_FShort
theorem zSm {p q:Prop} (k:q) (e:p=q:=by simp only [e1,e2,e3,e4,p1,p2,p3,q1,q2,q3,l1,t0,t1,r1,r2,r3,r4,Nat.zero_add,Nat.reduceMul,Nat.reduceAdd,b1,b2,b3,b4,b5,b6,i1,i2,i3,i4,i5,i6,Nat.reduceBEq,dfq,List.set_cons_zero,List.set_cons_succ,Nat.reduceEqDiff,reduceIte,if_true,if_false,ptL_kill,poL_kill,kills_map ptE,kills_map poE,kills_map ratE,ratL_kill,spL_kill,LV.kill,kills];exact rfl):p:=e.mpr k
end H_c_FShort
open H_c_FShort in
theorem c_FShort (l:List Rat) (hl:l.length≤1000) (hr:∀ x∈l,rl x≤1000000):CallP Tryz.prog 255 [.list 3 (l.map ratL)] (bL (shL l)):=by
 refine fnP Tryz.func255 ?_
 refine zg12 ?_
 refine lp1 (fun(k:Nat) L=>(((St.mk L.slot (hp [])).put (some 0) (.list 3 (l.map ratL))).put (some 3) (nI64 k))) (fun k=>k≤l.length∧∀ i,i<k→decide (bitR (l.getD i default)≤2048)=true) (fun k=>l.length-k) 0 ⟨Nat.zero_le _,fun i hi=>absurd hi (Nat.not_lt_zero i)⟩ ?_
 rintro k L1 ⟨hk,hs⟩
 refine zg9 ?_
 refine wl_if rfl (fun h7r h7=>?_) (fun h7r h7=>?_)
 ·have hk2:k<l.length:=by omega
  have hr1:=hr _ (getD_mem (i:=k) hk2)
  refine zg10 ?_
  refine cp am1 (c_FRBits (l.getD k 0) (by omega)) ?_
  refine zg3 ?_
  refine wl_if rfl (fun h15r h15=>?_) (fun h15r h15=>?_)
  ·have hV:shL l=false:=all_no (f:=fun q=>decide (bitR q≤2048)) hk2 (decide_eq_false (by show ¬bitR (l.getD k 0)≤2048;omega))
   refine zg11 ?_
   rw [hV]
   exact ret1 rfl (by first | exact .pure rfl | exact .pure (limL_pure _) | exact .pure (magL_pure _) | exact .pure (ratE.pure _) | exact .pure (pure_lst u32E _ _) | exact .pure (pure_lst ratE _ _))
  ·have hsn:∀ i,i<k+1→decide (bitR (l.getD i default)≤2048)=true:=fun i hi=>by
    rcases Nat.lt_succ_iff_lt_or_eq.1 hi with c | rfl
    ·exact hs i c
    ·exact decide_eq_true (by show bitR (l.getD i 0)≤2048;omega)
   refine zg5 ?_
   refine st_pure rfl (.bin rfl rfl (add1N (by omega))) ?_
   refine zg3 ?_
   exact nx1 (k+1) ⟨by omega,hsn⟩
 ·obtain rfl:k=l.length:=by omega
  have hV:shL l=true:=all_ok hs
  refine zg11 ?_
  rw [hV]
  exact ret1 rfl (by first | exact .pure rfl | exact .pure (limL_pure _) | exact .pure (magL_pure _) | exact .pure (ratE.pure _) | exact .pure (pure_lst u32E _ _) | exact .pure (pure_lst ratE _ _))
namespace H_c_FShortP
theorem zSm {p q:Prop} (k:q) (e:p=q:=by simp only [e1,e2,e3,e4,p1,p2,p3,q1,q2,q3,l1,t0,t1,r1,r2,r3,r4,Nat.zero_add,Nat.reduceMul,Nat.reduceAdd,b1,b2,b3,b4,b5,b6,i1,i2,i3,i4,i5,i6,Nat.reduceBEq,dfq,List.set_cons_zero,List.set_cons_succ,Nat.reduceEqDiff,reduceIte,if_true,if_false,ptL_kill,poL_kill,kills_map ptE,kills_map poE,kills_map ratE,ratL_kill,spL_kill,LV.kill,kills];exact rfl):p:=e.mpr k
end H_c_FShortP
open H_c_FShortP in
theorem c_FShortP (po:List PoR) (hl:po.length≤1000) (hq:(∀ q∈po,okP 1000000 q)):CallP Tryz.prog 256 [.list 12 (po.map poL)] (bL (shP po)):=by
 refine fnP Tryz.func256 ?_
 refine zg12 ?_
 refine lp1 (fun(k:Nat) L=>(((St.mk L.slot (hp [])).put (some 0) (.list 12 (po.map poL))).put (some 3) (nI64 k))) (fun k=>k≤po.length∧∀ i,i<k→shL [(po.getD i default).p.x,(po.getD i default).p.y,(po.getD i default).p.z,(po.getD i default).w]=true) (fun k=>po.length-k) 0 ⟨Nat.zero_le _,fun i hi=>absurd hi (Nat.not_lt_zero i)⟩ ?_
 rintro k L1 ⟨hk,hs⟩
 refine zg9 ?_
 refine wl_if rfl (fun h7r h7=>?_) (fun h7r h7=>?_)
 ·have hk2:k<po.length:=by omega
  obtain⟨⟨o1,o2,o3⟩,o4,_⟩:=hq _ (getD_memP hk2)
  have hSh:=c_FShort [(po.getD k default).p.x,(po.getD k default).p.y,(po.getD k default).p.z,(po.getD k default).w] (by simp) (fun x hx=>by
   simp only [List.mem_cons,List.not_mem_nil,or_false] at hx
   rcases hx with rfl | rfl | rfl | rfl<;>assumption)
  refine zg5 ?_
  refine wl_regD 26 (by decide +kernel) ?_
  refine zg24 ?_
  refine cpf [33] fm1 (hSh) ?_
  refine zg3 ?_
  refine wl_if rfl (fun h35r h35=>?_) (fun h35r h35=>?_)
  ·have hV:shP po=false:=all_no (f:=fun q:PoR=>shL [q.p.x,q.p.y,q.p.z,q.w]) (l:=po) hk2 (by simpa using h35)
   refine zg11 ?_
   rw [hV]
   exact ret1 rfl (by first | exact .pure rfl | exact .pure (limL_pure _) | exact .pure (magL_pure _) | exact .pure (ratE.pure _) | exact .pure (pure_lst u32E _ _) | exact .pure (pure_lst ratE _ _))
  ·have hsn:∀ i,i<k+1→shL [(po.getD i default).p.x,(po.getD i default).p.y,(po.getD i default).p.z,(po.getD i default).w]=true:=fun i hi=>by
    rcases Nat.lt_succ_iff_lt_or_eq.1 hi with c | rfl
    ·exact hs i c
    ·simpa using h35
   refine zg3 ?_
   refine wl_regW (Weak.kill _ 33) ?_
   refine zg1 ?_
   refine st_pure rfl (.bin rfl rfl (add1N (by omega))) ?_
   refine zg3 ?_
   exact nx1 (k+1) ⟨by omega,hsn⟩
 ·obtain rfl:k=po.length:=by omega
  have hV:shP po=true:=all_ok hs
  refine zg11 ?_
  rw [hV]
  exact ret1 rfl (by first | exact .pure rfl | exact .pure (limL_pure _) | exact .pure (magL_pure _) | exact .pure (ratE.pure _) | exact .pure (pure_lst u32E _ _) | exact .pure (pure_lst ratE _ _))
namespace H_c_FPtValid
theorem zSm {p q:Prop} (k:q) (e:p=q:=by simp only [e1,e2,e3,e4,p1,p2,p3,q1,q2,q3,l1,t0,t1,r1,r2,r3,r4,Nat.zero_add,Nat.reduceMul,Nat.reduceAdd,b1,b2,b3,b4,b5,b6,i1,i2,i3,i4,i5,i6,Nat.reduceBEq,List.set_cons_zero,List.set_cons_succ,Nat.reduceEqDiff,reduceIte,if_true,if_false,ptL_kill,poL_kill,kills_map ptE,kills_map poE,kills_map ratE,ratL_kill,spL_kill,LV.kill,kills];exact rfl):p:=e.mpr k
end H_c_FPtValid
open H_c_FPtValid in
theorem c_FPtValid (p:V3) (h:bd3 1000000 p):CallP Tryz.prog 251 [ptL p] (bL true):=by
 obtain⟨a1,a2,a3⟩:=h
 refine fnP Tryz.func251 ?_
 refine zg10 ?_
 refine cp am1 (c_FRValid p.x (by omega)) ?_
 refine zg3 ?_
 refine cp am1 (c_FRValid p.y (by omega)) ?_
 refine zg4 ?_
 refine cp am1 (c_FRValid p.z (by omega)) ?_
 refine zg5 ?_
 exact ret1 rfl (.pure rfl)
namespace H_c_FTimes
theorem zSm {p q:Prop} (k:q) (e:p=q:=by simp only [e1,e2,e3,e4,p1,p2,p3,q1,q2,q3,l1,t0,t1,r1,r2,r3,r4,Nat.zero_add,Nat.reduceMul,Nat.reduceAdd,b1,b2,b3,b4,b5,b6,i1,i2,i3,i4,i5,i6,Nat.reduceBEq,dfq,etm,List.set_cons_zero,List.set_cons_succ,Nat.reduceEqDiff,reduceIte,if_true,if_false,ptL_kill,poL_kill,kills_map ptE,kills_map poE,kills_map ratE,ratL_kill,spL_kill,LV.kill,kills];exact rfl):p:=e.mpr k
end H_c_FTimes
open H_c_FTimes in
theorem c_FTimes (k:List Rat) (hl:k.length≤1000) (hr:∀ x∈k,rl x≤1000000) (t:Rat) (ht:rl t≤1000000):CallP Tryz.prog 317 [.list 3 (k.map ratL),ratL t] (nI64 (tmN k t k.length)):=by
 refine fnP Tryz.func317 ?_
 have etm:True:=trivial
 refine zg18 ?_
 refine lp1 (fun(i:Nat) L=>(((((St.mk L.slot (hp [(3,⟨3,[ratL t],true⟩)])).put (some 0) (.list 3 (k.map ratL))).put (some 3) (.eptr 3 3 0 0)).put (some 5) (nI64 (tmN k t i))).put (some 6) (nI64 i))) (fun i=>i≤k.length) (fun i=>k.length-i) 0 (Nat.zero_le _) ?_
 rintro i L1 hi
 refine zg9 ?_
 refine wl_if rfl (fun h10r h10=>?_) (fun h10r h10=>?_)
 ·have hi2:i<k.length:=by omega
  have hx:=hr _ (getD_mem (i:=i) (by omega))
  have htl:=tmN_le k t i
  refine zg5 ?_
  refine wl_regD 6 (by decide +kernel) ?_
  refine zg5 ?_
  refine cp am2 (c_FSame (k.getD i 0) t (by omega)) ?_
  refine zg2 ?_
  refine wl_if rfl (fun h18r h18=>?_) (fun h18r h18=>?_)
  ·have etm:tmN k t (i+1)=tmN k t i+1:=by rw [tmN,if_pos h18]
   refine zg2 ?_
   refine st_pure rfl (.bin rfl rfl (add1N (by omega))) ?_
   refine zg6 ?_
   refine st_pure rfl (.bin rfl rfl (add1N (by omega))) ?_
   refine zg3 ?_
   exact nx1 (i+1) (by omega)
  ·have etm:tmN k t (i+1)=tmN k t i:=by rw [tmN,if_neg h18];rfl
   refine zg5 ?_
   refine st_pure rfl (.bin rfl rfl (add1N (by omega))) ?_
   refine zg3 ?_
   exact nx1 (i+1) (by omega)
 ·obtain rfl:i=k.length:=by omega
  refine zg12 ?_
  exact ret1 rfl (.pure rfl)
namespace H_c_FDistinct
theorem zSm {p q:Prop} (k:q) (e:p=q:=by simp only [e1,e2,e3,e4,p1,p2,p3,q1,q2,q3,l1,t0,t1,r1,r2,r3,r4,Nat.zero_add,Nat.reduceMul,Nat.reduceAdd,b1,b2,b3,b4,b5,b6,i1,i2,i3,i4,i5,i6,Nat.reduceBEq,dfq,eij,eii,ers,etk,edl,List.length_map,take_map_len,map_snoc,len_snoc,List.length_cons,List.length_nil,List.nil_append,List.map_nil,List.take_nil,List.append_nil,List.set_cons_zero,List.set_cons_succ,Nat.reduceEqDiff,reduceIte,if_true,if_false,ptL_kill,poL_kill,kills_map ptE,kills_map poE,kills_map ratE,ratL_kill,spL_kill,LV.kill,kills];exact rfl):p:=e.mpr k
end H_c_FDistinct
open H_c_FDistinct in
theorem c_FDistinct (k:List Rat) (hl:k.length≤1000) (hr:∀ x∈k,rl x≤1000000):CallP Tryz.prog 316 [.list 3 (k.map ratL)] (.list 3 ((dsN k k.length).map ratL)):=by
 refine fnP Tryz.func316 ?_
 have eij:True:=trivial
 have eii:True:=trivial
 have ers:True:=trivial
 have etk:True:=trivial
 have edl:True:=trivial
 refine zg17 ?_
 refine wl_weak (Weak.own (t:=3) 32 3 rfl rfl) ?_
 refine lp1 (fun(i:Nat) L=>((((St.mk L.slot (hp [(32,⟨3,(dsN k i).map ratL,true⟩)])).put (some 0) (.list 3 (k.map ratL))).put (some 3) (.ref 32 3 0 (dsN k i).length)).put (some 4) (nI64 i))) (fun i=>i≤k.length) (fun i=>k.length-i) 0 (Nat.zero_le _) ?_
 rintro i L1 hi
 refine zg9 ?_
 refine wl_if rfl (fun h8r h8=>?_) (fun h8r h8=>?_)
 ·have hi2:i<k.length:=by omega
  have hdi:=dsN_le k i
  have hx:=hr _ (getD_mem (i:=i) (by omega))
  have hx1:=hr _ (getD_mem (i:=(i-1)) (by omega))
  refine zg5 ?_
  refine wl_regD 15 (by decide +kernel) ?_
  refine zg3 ?_
  refine op_if 13 rfl (fun h13r h13=>?_) (fun h13r h13=>?_)
  ·have hc:i=0∨k.getD i 0≠k.getD (i-1) 0:=.inl (by omega)
   have ers:dsN k i++[k.getD i 0]=dsN k (i+1):=by rw [dsN,if_pos hc]
   have edl:(dsN k (i+1)).length=(dsN k i).length+1:=by rw [dsN,if_pos hc];simp
   have etk:((dsN k i).map ratL).take (dsN k i).length=(dsN k i).map ratL:=List.take_of_length_le (by rw [List.length_map];omega)
   refine zg22 ?_
   refine st_store rfl (.app (news:=[ratL (k.getD i 0)]) rfl rfl rfl rfl rfl (by rw [List.length_map];omega) (.inl rfl) (by decide) Tryz.underlying33 Tryz.underlying33 Z29a T29 rfl B29 (.inl ⟨31,0,_,rfl,by decide,rfl,rfl,by simp,rfl,by simp [pures,ratE.pure]⟩) (by simp;omega) (by simp;omega) (by decide)) ?_
   refine zg4 ?_
   refine wl_regW (Weak.kill _ 31) ?_
   refine zg1 ?_
   refine st_pure rfl (.bin rfl rfl (add1N (by omega))) ?_
   refine zg3 ?_
   exact nx1 (i+1) (by omega)
  ·have eij:((i:Int)-1).toNat=i-1:=by omega
   refine zg6 ?_
   refine st_pure (guardX (v:=false) rfl rfl (h13r) rfl) (.bin rfl rfl (sub1N (by omega) (by omega))) ?_
   refine zg2 ?_
   refine cp am2 (c_FSame (k.getD i 0) (k.getD (i-1) 0) (by omega)) ?_
   refine zg4 ?_
   refine wl_if rfl (fun h25r h25=>?_) (fun h25r h25=>?_)
   ·have hc:i=0∨k.getD i 0≠k.getD (i-1) 0:=by first | exact .inl (by omega) | exact .inr h24 | exact .inr (by simpa using h24) | exact .inr h25 | exact .inr (by simpa using h25)
    have ers:dsN k i++[k.getD i 0]=dsN k (i+1):=by rw [dsN,if_pos hc]
    have edl:(dsN k (i+1)).length=(dsN k i).length+1:=by rw [dsN,if_pos hc];simp
    have etk:((dsN k i).map ratL).take (dsN k i).length=(dsN k i).map ratL:=List.take_of_length_le (by rw [List.length_map];omega)
    refine zg7 ?_
    refine st_store rfl (.app (news:=[ratL (k.getD i 0)]) rfl rfl rfl rfl rfl (by rw [List.length_map];omega) (.inl rfl) (by decide) Tryz.underlying33 Tryz.underlying33 Z29a T29 rfl B29 (.inl ⟨31,0,_,rfl,by decide,rfl,rfl,by simp,rfl,by simp [pures,ratE.pure]⟩) (by simp;omega) (by simp;omega) (by decide)) ?_
    refine zg4 ?_
    refine wl_regW (Weak.kill _ 31) ?_
    refine zg1 ?_
    refine st_pure rfl (.bin rfl rfl (add1N (by omega))) ?_
    refine zg3 ?_
    exact nx1 (i+1) (by omega)
   ·have ers:dsN k (i+1)=dsN k i:=by
     rw [dsN,if_neg]
     rintro(e | e)
     ·omega
     ·first | exact e h24 | exact absurd e (by simpa using h24) | exact e h25 | exact absurd e (by simpa using h25)
    have edl:True:=trivial
    refine zg3 ?_
    refine wl_regW (Weak.kill _ 31) ?_
    refine zg1 ?_
    refine st_pure rfl (.bin rfl rfl (add1N (by omega))) ?_
    refine zg3 ?_
    exact nx1 (i+1) (by omega)
 ·obtain rfl:i=k.length:=by omega
  refine zg12 ?_
  exact ret1f [32] rfl rfl (imm_refm ratE rfl rfl rfl)
end Go.Proofs.YtgfbghoihhnahaaGreat
end
section
set_option linter.unusedVariables false
set_option linter.unusedSimpArgs false
set_option maxHeartbeats 8000000
set_option maxRecDepth 100000
attribute [local irreducible] Go.Lg.opsL Go.Lg.wpL Go.Lg.thenL Go.Lg.blockL
namespace Go.Proofs.YtgfbghoihhnahaaGreat
open Go.Lg
open H0 in
theorem c_FKPoles (k:List Rat) (d:Nat) (h:d+1≤k.length) (hl:k.length≤1048576):CallP Tryz.prog 254 [.list 3 (k.map ratL),nI64 d] (nI64 (k.length-d-1)):=by
 refine fnP Tryz.func254 ?_
 refine zg10 ?_
 refine st_pure rfl (.bin rfl rfl (sub64 (by omega) (by omega))) ?_
 refine st_pure rfl (.bin rfl rfl (sub64 (by omega) (by omega))) ?_
 refine zg4 ?_
 refine ret1 ?_ (.pure rfl)
 simp only [e1,e2,e3,e4,p1,p2,p3,q1,q2,q3,Nat.reduceBEq]
 congr 2
 omega
namespace H_c_FKCheck
theorem zSm {p q:Prop} (k:q) (e:p=q:=by simp only [e1,e2,e3,e4,p1,p2,p3,q1,q2,q3,l1,t0,t1,r1,r2,r3,r4,Nat.zero_add,Nat.reduceMul,Nat.reduceAdd,b1,b2,b3,b4,b5,b6,i1,i2,i3,i4,i5,i6,Nat.reduceBEq,dfq,eij,List.length_map,List.set_cons_zero,List.set_cons_succ,Nat.reduceEqDiff,reduceIte,if_true,if_false,ptL_kill,poL_kill,kills_map ptE,kills_map poE,kills_map ratE,ratL_kill,spL_kill,LV.kill,kills];exact rfl):p:=e.mpr k
end H_c_FKCheck
open H_c_FKCheck in
theorem c_FKCheck (k:List Rat) (d:Nat) (h:kOK k d):CallP Tryz.prog 253 [.list 3 (k.map ratL),nI64 d] (iL 0):=by
 have hd1:=h.d1
 have hd6:=h.d6
 have hlen:=h.len
 have hmax:=h.max
 have hr:∀ x∈k,rl x≤1000000:=fun x hx=>Nat.le_trans (h.sz x hx) (by decide)
 have hds2:=ds_two h
 have hdl:=dsN_le k k.length
 refine fnP Tryz.func253 ?_
 have eij:True:=trivial
 refine zg11 ?_
 refine op_if 11 rfl (fun h11r h11=>?_) (fun h11r h11=>?_)
 ·omega
 ·refine zg5 ?_
  refine wl_if rfl (fun h14r h14=>?_) (fun h14r h14=>?_)
  ·omega
  ·refine zg8 ?_
   refine st_pure rfl (.bin rfl rfl (mul64 (by omega) (by omega))) ?_
   refine st_pure rfl (.bin rfl rfl (add64 (by omega) (by omega))) ?_
   refine zg3 ?_
   refine wl_if rfl (fun h20r h20=>?_) (fun h20r h20=>?_)
   ·omega
   ·refine zg7 ?_
    refine cp am2 (c_FKPoles k d (by omega) (by omega)) ?_
    refine zg3 ?_
    refine wl_if rfl (fun h24r h24=>?_) (fun h24r h24=>?_)
    ·omega
    ·refine zg9 ?_
     refine lp1 (fun(i:Nat) L=>((((St.mk L.slot (hp [])).put (some 0) (.list 3 (k.map ratL))).put (some 1) (nI64 d)).put (some 5) (nI64 (i+1)))) (fun i=>i+1≤k.length) (fun i=>k.length-i) 0 (by omega) ?_
     rintro i L1 hi
     refine zg9 ?_
     refine wl_if rfl (fun h28r h28=>?_) (fun h28r h28=>?_)
     ·have hi2:i+1<k.length:=by omega
      have hx:=hr _ (getD_mem (p:=k) (i:=i) (by omega))
      have hx1:=hr _ (getD_mem (p:=k) (i:=i+1) (by omega))
      have hs1:=h.srt i hi2
      have eij:(((i+1:Nat):Int)-1).toNat=i:=by omega
      refine zg5 ?_
      refine wl_regD 11 (by decide +kernel) ?_
      refine zg6 ?_
      refine st_pure rfl (.bin rfl rfl (sub1N (by omega) (by omega))) ?_
      refine zg2 ?_
      try simp only [t1,dfq,Nat.add_sub_cancel,Int.toNat_natCast,eij]
      refine cp am2 (c_FRCmp (k.getD (i+1) 0) (k.getD i 0) (by omega)) ?_
      refine zg3 ?_
      refine wl_if rfl (fun h41r h41=>?_) (fun h41r h41=>?_)
      ·have:=cmpR_ge.2 (show k.getD i 0≤k.getD (i+1) 0 from hs1)
       omega
      ·refine zg5 ?_
       refine st_pure rfl (.bin rfl rfl (add1N (by omega))) ?_
       refine zg3 ?_
       exact nx1 (i+1) (by omega)
     ·refine zg8 ?_
      refine cp am1 (c_FDistinct k (by omega) hr) ?_
      refine zg10 ?_
      refine lp1 (fun(i:Nat) L=>(((((St.mk L.slot (hp [])).put (some 0) (.list 3 (k.map ratL))).put (some 1) (nI64 d)).put (some 6) (.list 3 ((dsN k k.length).map ratL))).put (some 7) (nI64 i))) (fun i=>i≤(dsN k k.length).length) (fun i=>(dsN k k.length).length-i) 0 (Nat.zero_le _) ?_
      rintro i L2 hi
      refine zg9 ?_
      refine wl_if rfl (fun h47r h47=>?_) (fun h47r h47=>?_)
      ·have hi2:i<(dsN k k.length).length:=by omega
       have hm:=dsN_mem k k.length (Nat.le_refl _) _ (getD_mem hi2)
       have hrt:=hr _ hm
       obtain⟨w1,w2,w3⟩:=ds_tm h hi2
       refine zg11 ?_
       refine cp am2 (c_FTimes k (by omega) hr ((dsN k k.length).getD i 0) hrt) ?_
       refine zg8 ?_
       refine op_if 58 rfl (fun h58r h58=>?_) (fun h58r h58=>?_)
       ·refine zg9 ?_
        refine st_pure (guardX (v:=true) rfl rfl (rfl) rfl) (.bin rfl rfl (add1N (by omega))) ?_
        refine zg3 ?_
        refine op_if 71 rfl (fun h71r h71=>?_) (fun h71r h71=>?_)
        ·have:=w1 (by omega)
         omega
        ·refine zg2 ?_
         refine st_pure (guardX (v:=false) rfl rfl (h71r) rfl) (.bin rfl rfl (add1N (by omega))) ?_
         refine zg3 ?_
         refine op_if 77 rfl (fun h77r h77=>?_) (fun h77r h77=>?_)
         ·omega
         ·refine zg3 ?_
          refine op_if 80 rfl (fun h80r h80=>?_) (fun h80r h80=>?_)
          ·refine zg3 ?_
           refine st_pure (guardX (v:=true) rfl rfl (h80r) rfl) (.bin rfl rfl (sub1N (by omega) (by omega))) ?_
           refine zg3 ?_
           refine op_if 87 rfl (fun h87r h87=>?_) (fun h87r h87=>?_)
           ·refine zg7 ?_
            refine wl_if rfl (fun h92r h92=>?_) (fun h92r h92=>?_)
            ·first | omega | (have:=w3 (by omega) (by omega);omega)
            ·refine zg5 ?_
             refine st_pure rfl (.bin rfl rfl (add1N (by omega))) ?_
             refine zg3 ?_
             exact nx1 (i+1) (by omega)
           ·refine zg13 ?_
            refine st_pure rfl (.bin rfl rfl (add1N (by omega))) ?_
            refine zg3 ?_
            exact nx1 (i+1) (by omega)
          ·refine zg20 ?_
           refine st_pure rfl (.bin rfl rfl (add1N (by omega))) ?_
           refine zg3 ?_
           exact nx1 (i+1) (by omega)
       ·refine zg3 ?_
        refine st_pure (guardX (v:=false) rfl rfl (h58r) rfl) (.bin rfl rfl (sub1N (by omega) (by omega))) ?_
        refine zg3 ?_
        refine op_if 65 rfl (fun h65r h65=>?_) (fun h65r h65=>?_)
        ·refine zg2 ?_
         refine st_pure (guardX (v:=true) rfl rfl (h65r) rfl) (.bin rfl rfl (add1N (by omega))) ?_
         refine zg3 ?_
         refine op_if 71 rfl (fun h71r h71=>?_) (fun h71r h71=>?_)
         ·have:=w1 (by omega)
          omega
         ·refine zg2 ?_
          refine st_pure (guardX (v:=false) rfl rfl (h71r) rfl) (.bin rfl rfl (add1N (by omega))) ?_
          refine zg3 ?_
          refine op_if 77 rfl (fun h77r h77=>?_) (fun h77r h77=>?_)
          ·omega
          ·refine zg3 ?_
           refine op_if 80 rfl (fun h80r h80=>?_) (fun h80r h80=>?_)
           ·refine zg3 ?_
            refine st_pure (guardX (v:=true) rfl rfl (h80r) rfl) (.bin rfl rfl (sub1N (by omega) (by omega))) ?_
            refine zg3 ?_
            refine op_if 87 rfl (fun h87r h87=>?_) (fun h87r h87=>?_)
            ·refine zg7 ?_
             refine wl_if rfl (fun h92r h92=>?_) (fun h92r h92=>?_)
             ·first | omega | (have:=w3 (by omega) (by omega);omega)
             ·refine zg5 ?_
              refine st_pure rfl (.bin rfl rfl (add1N (by omega))) ?_
              refine zg3 ?_
              exact nx1 (i+1) (by omega)
            ·refine zg13 ?_
             refine st_pure rfl (.bin rfl rfl (add1N (by omega))) ?_
             refine zg3 ?_
             exact nx1 (i+1) (by omega)
           ·refine zg20 ?_
            refine st_pure rfl (.bin rfl rfl (add1N (by omega))) ?_
            refine zg3 ?_
            exact nx1 (i+1) (by omega)
        ·refine zg8 ?_
         refine st_pure (guardX (v:=false) rfl rfl (rfl) rfl) (.bin rfl rfl (add1N (by omega))) ?_
         refine zg3 ?_
         refine op_if 77 rfl (fun h77r h77=>?_) (fun h77r h77=>?_)
         ·omega
         ·refine zg3 ?_
          refine op_if 80 rfl (fun h80r h80=>?_) (fun h80r h80=>?_)
          ·refine zg3 ?_
           refine st_pure (guardX (v:=true) rfl rfl (h80r) rfl) (.bin rfl rfl (sub1N (by omega) (by omega))) ?_
           refine zg3 ?_
           refine op_if 87 rfl (fun h87r h87=>?_) (fun h87r h87=>?_)
           ·refine zg7 ?_
            refine wl_if rfl (fun h92r h92=>?_) (fun h92r h92=>?_)
            ·first | omega | (have:=w3 (by omega) (by omega);omega)
            ·refine zg5 ?_
             refine st_pure rfl (.bin rfl rfl (add1N (by omega))) ?_
             refine zg3 ?_
             exact nx1 (i+1) (by omega)
           ·refine zg13 ?_
            refine st_pure rfl (.bin rfl rfl (add1N (by omega))) ?_
            refine zg3 ?_
            exact nx1 (i+1) (by omega)
          ·refine zg20 ?_
           refine st_pure rfl (.bin rfl rfl (add1N (by omega))) ?_
           refine zg3 ?_
           exact nx1 (i+1) (by omega)
      ·refine zg13 ?_
       refine wl_if rfl (fun h95r h95=>?_) (fun h95r h95=>?_)
       ·omega
       ·refine zg8 ?_
        exact ret1 rfl (.pure rfl)
namespace H_c_FCk10
theorem zSm {p q:Prop} (k:q) (e:p=q:=by simp only [e1,e2,e3,e4,p1,p2,p3,q1,q2,q3,l1,t0,t1,r1,r2,r3,r4,Nat.zero_add,Nat.reduceMul,Nat.reduceAdd,b1,b2,b3,b4,b5,b6,i1,i2,i3,i4,i5,i6,Nat.reduceBEq,dfq,List.length_map,List.set_cons_zero,List.set_cons_succ,Nat.reduceEqDiff,reduceIte,if_true,if_false,ptL_kill,poL_kill,kills_map ptE,kills_map poE,kills_map ratE,ratL_kill,spL_kill,LV.kill,kills];exact rfl):p:=e.mpr k
end H_c_FCk10
open H_c_FCk10 in
theorem c_FCk10 (d:Nat) (kn:List Rat) (po:List PoR) (hk:kOK kn d) (hpo:po.length=kn.length-d-1) (hq:∀ q∈po,okP 1000000 q):CallP Tryz.prog 156 [.agg [nI64 d,.list 3 (kn.map ratL),.list 12 (po.map poL)]] (iL (if shL kn=true∧shP po=true then 0 else 2)):=by
 have hcp:LV.pure (.agg [nI64 d,.list 3 (kn.map ratL),.list 12 (po.map poL)])=true:=by simp [LV.pure,pures,pures_map ratE,pures_map poE]
 have hd1:=hk.d1
 have hd6:=hk.d6
 have hlen:=hk.len
 have hmax:=hk.max
 have hr:∀ x∈kn,rl x≤1000000:=fun x hx=>Nat.le_trans (hk.sz x hx) (by decide)
 refine fnP Tryz.func156 ?_
 refine zg11 ?_
 refine cp am1 (c_FValids kn (by omega) (fun x hx=>Nat.le_trans (hr x hx) (by decide))) ?_
 refine zg3 ?_
 refine wl_condY (b:=_) rfl (rfl) ?_
 refine zg9 ?_
 refine lp1 (fun(i:Nat) L=>(((St.mk L.slot (hp [(1,⟨3,[.agg [nI64 d,.list 3 (kn.map ratL),.list 12 (po.map poL)]],true⟩)])).put (some 1) (.eptr 1 3 0 0)).put (some 3) (nI64 i))) (fun i=>i≤po.length) (fun i=>po.length-i) 0 (Nat.zero_le _) ?_
 rintro i L1 hi
 refine zg10 ?_
 refine wl_if rfl (fun h14r h14=>?_) (fun h14r h14=>?_)
 ·have hi2:i<po.length:=by omega
  obtain⟨o1,o4,o5⟩:=hq _ (getD_memP hi2)
  refine zg12 ?_
  refine cp am1 (c_FPtValid (po.getD i default).p o1) ?_
  refine zg2 ?_
  refine st_pure (guardX (v:=false) rfl rfl ((rfl)) rfl) faA ?_
  refine st_pure (guardX (v:=false) rfl rfl ((rfl)) rfl) ldA ?_
  refine st_pure (guardX (v:=false) rfl rfl ((rfl)) rfl) (.move _) ?_
  refine st_pure (guardX (v:=false) rfl rfl ((rfl)) rfl) ixA ?_
  refine st_pure (guardX (v:=false) rfl rfl ((rfl)) rfl) faA ?_
  refine st_pure (guardX (v:=false) rfl rfl ((rfl)) rfl) ldA ?_
  refine st_callP (guardX (v:=false) rfl rfl ((rfl)) rfl) (.cons im0 .nil) (c_FRValid (po.getD i default).w (by omega)) ?_
  refine st_pure (guardX (v:=false) rfl rfl ((rfl)) rfl) (.not rfl) ?_
  refine st_pure rfl (.pickF rfl ((rfl))) ?_
  refine zg2 ?_
  refine wl_condY (b:=_) rfl (rfl) ?_
  refine zg5 ?_
  refine st_pure rfl (.bin rfl rfl (add1N (by omega))) ?_
  refine zg3 ?_
  exact nx1 (i+1) (by omega)
 ·refine zg12 ?_
  refine cp am2 (c_FKCheck kn d hk) ?_
  refine zg9 ?_
  refine wl_if rfl (fun h41r h41=>?_) (fun h41r h41=>?_)
  ·first | exact h41.elim | cases h41r | exact absurd h41r (by decide)
  ·refine zg4 ?_
   refine wl_regD 9 (by decide +kernel) ?_
   refine zg7 ?_
   refine cp am2 (c_FKPoles kn d (by omega) (by omega)) ?_
   refine zg3 ?_
   refine wl_if rfl (fun h51r h51=>?_) (fun h51r h51=>?_)
   ·omega
   ·refine zg9 ?_
    refine lp1 (fun(i:Nat) L=>(((St.mk L.slot (hp [(1,⟨3,[.agg [nI64 d,.list 3 (kn.map ratL),.list 12 (po.map poL)]],true⟩)])).put (some 1) (.eptr 1 3 0 0)).put (some 5) (nI64 i))) (fun i=>i≤po.length) (fun i=>po.length-i) 0 (Nat.zero_le _) ?_
    rintro i L2 hi
    refine zg10 ?_
    refine wl_if rfl (fun h56r h56=>?_) (fun h56r h56=>?_)
    ·have hi2:i<po.length:=by omega
     obtain⟨o1,o4,o5⟩:=hq _ (getD_memP hi2)
     refine zg12 ?_
     refine cp am1 (c_FSign (po.getD i default).w) ?_
     refine zg3 ?_
     refine wl_if rfl (fun h66r h66=>?_) (fun h66r h66=>?_)
     ·have:=sgn_pos o5
      omega
     ·refine zg5 ?_
      refine st_pure rfl (.bin rfl rfl (add1N (by omega))) ?_
      refine zg3 ?_
      exact nx1 (i+1) (by omega)
    ·refine zg10 ?_
     refine cp am1 (c_FShort kn (by omega) hr) ?_
     refine zg2 ?_
     refine op_if 71 rfl (fun h71r h71=>?_) (fun h71r h71=>?_)
     ·have hV:¬(shL kn=true∧shP po=true):=fun e=>by rw [e.1] at h71r;cases h71r
      refine zg15 ?_
      first | (rw [if_pos hV];exact ret1 rfl (.pure rfl)) | (rw [if_neg hV];exact ret1 rfl (.pure rfl))
     ·refine zg2 ?_
      refine cp am1 (c_FShortP po (by omega) hq) ?_
      refine zg4 ?_
      refine wl_if rfl (fun h76r h76=>?_) (fun h76r h76=>?_)
      ·have hV:¬(shL kn=true∧shP po=true):=fun e=>by first | (rw [e.1] at h75r;cases h75r) | (rw [e.2] at h76r;cases h76r) | (simp [e.1,e.2] at *)
       refine zg7 ?_
       first | (rw [if_pos hV];exact ret1 rfl (.pure rfl)) | (rw [if_neg hV];exact ret1 rfl (.pure rfl))
      ·have hV:shL kn=true∧shP po=true:=by first | (simp at *;simp [*];done) | (constructor<;>simp_all)
       refine zg8 ?_
       first | (rw [if_pos hV];exact ret1 rfl (.pure rfl)) | (rw [if_neg hV];exact ret1 rfl (.pure rfl))
namespace H_c_FCk11a
theorem zSm {p q:Prop} (k:q) (e:p=q:=by simp only [e1,e2,e3,e4,p1,p2,p3,q1,q2,q3,l1,t0,t1,r1,r2,r3,r4,Nat.zero_add,Nat.reduceMul,Nat.reduceAdd,b1,b2,b3,b4,b5,b6,i1,i2,i3,i4,i5,i6,Nat.reduceBEq,List.set_cons_zero,List.set_cons_succ,Nat.reduceEqDiff,reduceIte,if_true,if_false,ptL_kill,poL_kill,kills_map ptE,kills_map poE,kills_map ratE,ratL_kill,spL_kill,LV.kill,kills];exact rfl):p:=e.mpr k
end H_c_FCk11a
open H_c_FCk11a in
theorem c_FCk11a (d:Nat) (kn:List Rat) (po:List PoR) (hk:kOK kn d) (hpo:po.length=kn.length-d-1) (hq:∀ q∈po,okP 1000000 q) (hc:CallP Tryz.prog 156 [.agg [nI64 d,.list 3 (kn.map ratL),.list 12 (po.map poL)]] (iL 0)):CallP Tryz.prog 58 [.agg [nI64 d,.list 3 (kn.map ratL),.list 12 (po.map poL)]] (iL (if po.length=d+1 then 0 else 5)):=by
 have hcp:LV.pure (.agg [nI64 d,.list 3 (kn.map ratL),.list 12 (po.map poL)])=true:=by simp [LV.pure,pures,pures_map ratE,pures_map poE]
 have hd6:=hk.d6
 have hmax:=hk.max
 refine fnP Tryz.func58 ?_
 refine zg10 ?_
 refine cp am1 (hc) ?_
 refine zg9 ?_
 refine wl_if rfl (fun h7r h7=>?_) (fun h7r h7=>?_)
 ·first | exact h7.elim | cases h7r | exact absurd h7r (by decide)
 ·refine zg10 ?_
  refine st_pure rfl (.bin rfl rfl (add1N (by omega))) ?_
  refine zg3 ?_
  refine wl_if rfl (fun h15r h15=>?_) (fun h15r h15=>?_)
  ·have hV:¬po.length=d+1:=by omega
   refine zg7 ?_
   first | (rw [if_pos hV];exact ret1 rfl (.pure rfl)) | (rw [if_neg hV];exact ret1 rfl (.pure rfl))
  ·have hV:po.length=d+1:=by omega
   refine zg8 ?_
   first | (rw [if_pos hV];exact ret1 rfl (.pure rfl)) | (rw [if_neg hV];exact ret1 rfl (.pure rfl))
namespace H_c_FCk11b
theorem zSm {p q:Prop} (k:q) (e:p=q:=by simp only [e1,e2,e3,e4,p1,p2,p3,q1,q2,q3,l1,t0,t1,r1,r2,r3,r4,Nat.zero_add,Nat.reduceMul,Nat.reduceAdd,b1,b2,b3,b4,b5,b6,i1,i2,i3,i4,i5,i6,Nat.reduceBEq,List.set_cons_zero,List.set_cons_succ,Nat.reduceEqDiff,reduceIte,if_true,if_false,ptL_kill,poL_kill,kills_map ptE,kills_map poE,kills_map ratE,ratL_kill,spL_kill,LV.kill,kills];exact rfl):p:=e.mpr k
end H_c_FCk11b
open H_c_FCk11b in
theorem c_FCk11b (d:Nat) (kn:List Rat) (po:List PoR) (hk:kOK kn d) (hpo:po.length=kn.length-d-1) (hq:∀ q∈po,okP 1000000 q) (hc:CallP Tryz.prog 156 [.agg [nI64 d,.list 3 (kn.map ratL),.list 12 (po.map poL)]] (iL 2)):CallP Tryz.prog 58 [.agg [nI64 d,.list 3 (kn.map ratL),.list 12 (po.map poL)]] (iL 2):=by
 have hcp:LV.pure (.agg [nI64 d,.list 3 (kn.map ratL),.list 12 (po.map poL)])=true:=by simp [LV.pure,pures,pures_map ratE,pures_map poE]
 have hd6:=hk.d6
 have hmax:=hk.max
 refine fnP Tryz.func58 ?_
 refine zg10 ?_
 refine cp am1 (hc) ?_
 refine zg9 ?_
 refine wl_if rfl (fun h7r h7=>?_) (fun h7r h7=>?_)
 ·refine zg8 ?_
  exact ret1 rfl (.pure rfl)
 ·first | exact h7.elim | cases h7r | exact absurd h7r (by decide)
theorem c_FCk11 (d:Nat) (kn:List Rat) (po:List PoR) (hk:kOK kn d) (hpo:po.length=kn.length-d-1) (hq:∀ q∈po,okP 1000000 q):CallP Tryz.prog 58 [.agg [nI64 d,.list 3 (kn.map ratL),.list 12 (po.map poL)]] (iL (if shL kn=true∧shP po=true then(if po.length=d+1 then 0 else 5) else 2)):=by
 have hc:=c_FCk10 d kn po hk hpo hq
 by_cases hS:shL kn=true∧shP po=true
 ·rw [if_pos hS] at hc ⊢
  exact c_FCk11a d kn po hk hpo hq hc
 ·rw [if_neg hS] at hc ⊢
  exact c_FCk11b d kn po hk hpo hq hc
end Go.Proofs.YtgfbghoihhnahaaGreat
end
section
set_option linter.unusedVariables false
set_option linter.unusedSimpArgs false
set_option maxHeartbeats 8000000
set_option maxRecDepth 100000
attribute [local irreducible] Go.Lg.opsL Go.Lg.wpL Go.Lg.thenL Go.Lg.blockL
namespace Go.Proofs.YtgfbghoihhnahaaGreat
open Go.Lg
def kx (d:Nat) (T:Rat) (inn:List Rat) (E:Rat):List Rat:=List.replicate (d+1) T++(inn++List.replicate (d+1) E)
theorem kx_len (d:Nat) (T:Rat) (inn:List Rat) (E:Rat):(kx d T inn E).length=2*(d+1)+inn.length:=by simp [kx];omega
theorem kx_get (d:Nat) (T:Rat) (inn:List Rat) (E:Rat) (i:Nat) (h:i<2*(d+1)+inn.length):(kx d T inn E).getD i 0=if i<d+1 then T else if i<d+1+inn.length then inn.getD (i-(d+1)) 0 else E:=by
 unfold kx
 split
 ·rw [gD1 (by simp;omega),getD_rep (by omega)]
 ·rw [gD2 (by simp;omega),List.length_replicate]
  split
  ·rw [gD1 (by omega)]
  ·rw [gD2 (by omega),getD_rep (by omega)]
theorem tm_no {l:List Rat} {t:Rat} (h:∀ x∈l,x≠t):∀ i,i≤l.length→tmN l t i=0
 | 0,_=>rfl
 | i+1,hi=>by rw [tmN,tm_no h i (by omega),if_neg (h _ (getD_mem (by omega)))]
theorem kx_tm (d:Nat) (T:Rat) (inn:List Rat) (E t:Rat):tmN (kx d T inn E) t (kx d T inn E).length=(if T=t then d+1 else 0)+(tmN inn t inn.length+(if E=t then d+1 else 0)):=by
 have h:=tm_app (List.replicate (d+1) T) (inn++List.replicate (d+1) E) t (inn.length+(d+1))
 have h2:=tm_app inn (List.replicate (d+1) E) t (d+1)
 rw [List.length_replicate] at h
 have e:(kx d T inn E).length=d+1+(inn.length+(d+1)):=by rw [kx_len];omega
 rw [e]
 show tmN (List.replicate (d+1) T++_) t _=_
 rw [h,h2,tm_const _ _ _ _ (Nat.le_refl _),tm_const _ _ _ _ (Nat.le_refl _)]
structure inOK (d:Nat) (T:Rat) (inn:List Rat) (E:Rat):Prop where
 btw:∀ x∈inn,T<x∧x<E
 srt:∀ i,i+1<inn.length→inn.getD i 0≤inn.getD (i+1) 0
 tms:∀ x∈inn,tmN inn x inn.length≤d
 len:inn.length≤2
 sz:∀ x∈inn,rl x≤64
theorem kx_ok {d:Nat} {T E:Rat} {inn:List Rat} (h1:1≤d) (h6:d≤6) (hT:rl T≤64) (hE:rl E≤64) (hTE:T<E) (h:inOK d T inn E):kOK (kx d T inn E) d:=by
 have hl:=kx_len d T inn E
 have hn:=h.len
 have hne:T≠E:=by grind
 have e0:(kx d T inn E).getD 0 0=T:=by rw [kx_get _ _ _ _ _ (by omega),if_pos (by omega)]
 have e1:(kx d T inn E).getD ((kx d T inn E).length-1) 0=E:=by rw [hl,kx_get _ _ _ _ _ (by omega),if_neg (by omega),if_neg (by omega)]
 have hm:∀ x∈kx d T inn E,x=T∨x∈inn∨x=E:=fun x hx=>by
  rcases List.mem_append.1 hx with g | g
  ·exact .inl (List.mem_replicate.1 g).2
  ·rcases List.mem_append.1 g with g | g
   ·exact .inr (.inl g)
   ·exact .inr (.inr (List.mem_replicate.1 g).2)
 refine⟨h1,h6,by omega,by omega,fun i hi=>?_,by rw [e0,e1];exact hne,fun t ht he=>?_,fun t ht g0 g1=>?_,fun x hx=>?_⟩
 ·rw [kx_get _ _ _ _ _ (by omega),kx_get _ _ _ _ _ (by omega)]
  by_cases c1:i+1<d+1
  ·rw [if_pos (by omega),if_pos c1];exact Rat.le_refl
  ·rw [if_neg c1]
   by_cases c2:i<d+1
   ·rw [if_pos c2]
    split
    ·exact Rat.le_of_lt (h.btw _ (getD_mem (by omega))).1
    ·exact Rat.le_of_lt hTE
   ·rw [if_neg c2]
    by_cases c3:i+1<d+1+inn.length
    ·rw [if_pos (by omega),if_pos c3,show i+1-(d+1)=i-(d+1)+1 by omega]
     exact h.srt _ (by omega)
    ·rw [if_neg c3]
     split
     ·exact Rat.le_of_lt (h.btw _ (getD_mem (by omega))).2
     ·exact Rat.le_refl
 ·rw [kx_tm]
  rw [e0,e1] at he
  have z:∀ s,(s=T∨s=E)→tmN inn s inn.length=0:=fun s hs=>tm_no (fun x hx e=>by
   have:=h.btw x hx
   rcases hs with rfl | rfl
   ·rw [e] at this;exact absurd this.1 (by grind)
   ·rw [e] at this;exact absurd this.2 (by grind)) _ (Nat.le_refl _)
  rw [z t he]
  rcases he with rfl | rfl
  ·rw [if_pos rfl,if_neg (fun e=>hne e.symm)]
  ·rw [if_neg hne,if_pos rfl];omega
 ·rw [e0] at g0;rw [e1] at g1
  rw [kx_tm,if_neg (fun e=>g0 e.symm),if_neg (fun e=>g1 e.symm)]
  rcases hm t ht with e | e | e
  ·exact absurd e g0
  ·have:=h.tms t e;omega
  ·exact absurd e g1
 ·rcases hm x hx with rfl | g | rfl
  ·exact hT
  ·exact h.sz x g
  ·exact hE
namespace H_c_FSameP
theorem zSm {p q:Prop} (k:q) (e:p=q:=by simp only [e1,e2,e3,e4,p1,p2,p3,q1,q2,q3,l1,t0,t1,r1,r2,r3,r4,Nat.zero_add,Nat.reduceMul,Nat.reduceAdd,b1,b2,b3,b4,b5,b6,i1,i2,i3,i4,i5,i6,Nat.reduceBEq,dfq,List.length_map,List.set_cons_zero,List.set_cons_succ,Nat.reduceEqDiff,reduceIte,if_true,if_false,ptL_kill,poL_kill,kills_map ptE,kills_map poE,kills_map ratE,ratL_kill,spL_kill,LV.kill,kills];exact rfl):p:=e.mpr k
end H_c_FSameP
open H_c_FSameP in
theorem c_FSameP (po:List PoR) (hl:po.length≤1000) (hq:∀ q∈po,okP 1000000 q):CallP Tryz.prog 161 [.list 12 (po.map poL),.list 12 (po.map poL)] (bL true):=by
 refine fnP Tryz.func161 ?_
 refine zg15 ?_
 refine wl_if rfl (fun h10r h10=>?_) (fun h10r h10=>?_)
 ·first | exact absurd rfl h10 | (exfalso;simp at h10;done) | (exfalso;simp at h10r;done)
 ·refine zg9 ?_
  refine lp1 (fun(i:Nat) L=>((((St.mk L.slot (hp [])).put (some 0) (.list 12 (po.map poL))).put (some 1) (.list 12 (po.map poL))).put (some 5) (nI64 i))) (fun i=>i≤po.length) (fun i=>po.length-i) 0 (Nat.zero_le _) ?_
  rintro i L1 hi
  refine zg9 ?_
  refine wl_if rfl (fun h14r h14=>?_) (fun h14r h14=>?_)
  ·have hi2:i<po.length:=by omega
   obtain⟨o1,o4,o5⟩:=hq _ (getD_memP hi2)
   have hS:CallP Tryz.prog 19 [ratL (po.getD i default).w,ratL (po.getD i default).w] (bL true):=by
    have:=c_FSame (po.getD i default).w (po.getD i default).w (by omega)
    rwa [decide_eq_true rfl] at this
   refine zg5 ?_
   refine wl_regD 26 (by decide +kernel) ?_
   refine zg10 ?_
   refine cp am2 (c_FPtSame (po.getD i default).p (o1.le (by decide))) ?_
   refine zg2 ?_
   refine st_pure (guardX (v:=false) rfl rfl ((rfl)) rfl) (.move _) ?_
   refine st_pure (guardX (v:=false) rfl rfl ((rfl)) rfl) (.move _) ?_
   refine st_pure (guardX (v:=false) rfl rfl ((rfl)) rfl) ixA ?_
   refine st_pure (guardX (v:=false) rfl rfl ((rfl)) rfl) faA ?_
   refine st_pure (guardX (v:=false) rfl rfl ((rfl)) rfl) ldA ?_
   refine st_pure (guardX (v:=false) rfl rfl ((rfl)) rfl) (.move _) ?_
   refine st_pure (guardX (v:=false) rfl rfl ((rfl)) rfl) (.move _) ?_
   refine st_pure (guardX (v:=false) rfl rfl ((rfl)) rfl) ixA ?_
   refine st_pure (guardX (v:=false) rfl rfl ((rfl)) rfl) faA ?_
   refine st_pure (guardX (v:=false) rfl rfl ((rfl)) rfl) ldA ?_
   refine st_callP (guardX (v:=false) rfl rfl ((rfl)) rfl) (.cons im0 (.cons im0 .nil)) (hS) ?_
   refine st_pure (guardX (v:=false) rfl rfl ((rfl)) rfl) (.not rfl) ?_
   refine st_pure rfl (.pickF rfl ((rfl))) ?_
   refine zg2 ?_
   refine wl_condY (b:=_) rfl (rfl) ?_
   refine zg5 ?_
   refine st_pure rfl (.bin rfl rfl (add1N (by omega))) ?_
   refine zg3 ?_
   exact nx1 (i+1) (by omega)
  ·refine zg11 ?_
   exact ret1 rfl (.pure rfl)
namespace H_c_FCvSame
theorem zSm {p q:Prop} (k:q) (e:p=q:=by simp only [e1,e2,e3,e4,p1,p2,p3,q1,q2,q3,l1,t0,t1,r1,r2,r3,r4,Nat.zero_add,Nat.reduceMul,Nat.reduceAdd,b1,b2,b3,b4,b5,b6,i1,i2,i3,i4,i5,i6,Nat.reduceBEq,List.set_cons_zero,List.set_cons_succ,Nat.reduceEqDiff,reduceIte,if_true,if_false,ptL_kill,poL_kill,kills_map ptE,kills_map poE,kills_map ratE,ratL_kill,spL_kill,LV.kill,kills];exact rfl):p:=e.mpr k
end H_c_FCvSame
open H_c_FCvSame in
theorem c_FCvSame (d:Nat) (kn:List Rat) (po:List PoR) (hk:kn.length≤1000) (hr:∀ x∈kn,rl x≤1000000) (hl:po.length≤1000) (hq:∀ q∈po,okP 1000000 q):CallP Tryz.prog 62 [.agg [nI64 d,.list 3 (kn.map ratL),.list 12 (po.map poL)],.agg [nI64 d,.list 3 (kn.map ratL),.list 12 (po.map poL)]] (bL true):=by
 have hcp:LV.pure (.agg [nI64 d,.list 3 (kn.map ratL),.list 12 (po.map poL)])=true:=by simp [LV.pure,pures,pures_map ratE,pures_map poE]
 have hL:CallP Tryz.prog 157 [.list 3 (kn.map ratL),.list 3 (kn.map ratL)] (bL true):=by
  have:=c_FSameL kn kn (by omega) (by omega) (fun x hx=>Nat.le_trans (hr x hx) (by decide)) (fun x hx=>Nat.le_trans (hr x hx) (by decide))
  rwa [decide_eq_true rfl] at this
 refine fnP Tryz.func62 ?_
 refine zg15 ?_
 refine st_pure (guardX (v:=true) rfl rfl ((beq_self_eq_true _)) rfl) faA ?_
 refine st_pure (guardX (v:=true) rfl rfl ((beq_self_eq_true _)) rfl) ldA ?_
 refine st_pure (guardX (v:=true) rfl rfl ((beq_self_eq_true _)) rfl) faA ?_
 refine st_pure (guardX (v:=true) rfl rfl ((beq_self_eq_true _)) rfl) ldA ?_
 refine st_callP (guardX (v:=true) rfl rfl ((beq_self_eq_true _)) rfl) (.cons im0 (.cons im0 .nil)) (hL) ?_
 refine st_pure rfl (.pickT rfl ((beq_self_eq_true _))) ?_
 refine zg1 ?_
 refine st_pure (guardX (v:=true) rfl rfl ((rfl)) rfl) faA ?_
 refine st_pure (guardX (v:=true) rfl rfl ((rfl)) rfl) ldA ?_
 refine st_pure (guardX (v:=true) rfl rfl ((rfl)) rfl) faA ?_
 refine st_pure (guardX (v:=true) rfl rfl ((rfl)) rfl) ldA ?_
 refine st_callP (guardX (v:=true) rfl rfl ((rfl)) rfl) (.cons im0 (.cons im0 .nil)) (c_FSameP po hl hq) ?_
 refine st_pure rfl (.pickT rfl ((rfl))) ?_
 refine zg4 ?_
 exact ret1 rfl (.pure rfl)
namespace H_c_CutE
theorem zSm {p q:Prop} (k:q) (e:p=q:=by simp only [e1,e2,e3,e4,p1,p2,p3,q1,q2,q3,l1,t0,t1,r1,r2,r3,r4,Nat.zero_add,Nat.reduceMul,Nat.reduceAdd,b1,b2,b3,b4,b5,b6,i1,i2,i3,i4,i5,i6,Nat.reduceBEq,List.set_cons_zero,List.set_cons_succ,Nat.reduceEqDiff,reduceIte,if_true,if_false,ptL_kill,poL_kill,kills_map ptE,kills_map poE,kills_map ratE,ratL_kill,spL_kill,LV.kill,kills];exact rfl):p:=e.mpr k
end H_c_CutE
open H_c_CutE in
theorem c_CutE (d:Nat) (a b:Rat) (po:List PoR) (ha:rl a≤100) (hb:rl b≤100) (hab:a<b) (h9:d≤6) (lo hi:Rat) (hlo0:rl lo≤100) (hhi0:rl hi≤100) (k1:a≤lo) (k0:a≤hi) (k2:hi≤lo) (k3:hi≤b) (k4:lo≤b) (hp0:0<po.length):CallP Tryz.prog 55 [.agg [nI64 d,.list 3 ((kn2 d a b).map ratL),.list 12 (po.map poL)],ratL lo,ratL hi] (.tup [.agg [.v (.int .i64 0),.v (.slice none 0 0),.v (.slice none 0 0)],iL 7]):=by
 have hcp:LV.pure (.agg [nI64 d,.list 3 ((kn2 d a b).map ratL),.list 12 (po.map poL)])=true:=by simp [LV.pure,pures,pures_map ratE,pures_map poE]
 have hOx:=c_own2 d a b po ha hb hab h9 lo _ hlo0 k1 k4 rfl hp0
 have hOy:=c_own2 d a b po ha hb hab h9 hi _ hhi0 k0 k3 rfl hp0
 have hcm:cmpR lo hi≥0:=cmpR_ge.2 k2
 refine fnP Tryz.func55 (ht:=(tame2 (by simp [LV.pure,pures]) rfl)) ?_
 refine zg13 ?_
 refine cp am2 (hOx) ?_
 refine zg15 ?_
 refine cp am2 (hOy) ?_
 refine zg17 ?_
 refine st_pure (guardX (v:=false) rfl rfl ((rfl)) rfl) (.move _) ?_
 refine st_pure (guardX (v:=false) rfl rfl ((rfl)) rfl) (.not rfl) ?_
 refine st_pure rfl (.pickF rfl ((rfl))) ?_
 refine zg1 ?_
 refine st_pure (guardX (v:=false) rfl rfl ((rfl)) rfl) ldA ?_
 refine st_pure (guardX (v:=false) rfl rfl ((rfl)) rfl) ldA ?_
 refine st_callP (guardX (v:=false) rfl rfl ((rfl)) rfl) (.cons im0 (.cons im0 .nil)) (c_RCmp lo hi (by omega)) ?_
 refine st_pure (guardX (v:=false) rfl rfl ((rfl)) rfl) (.bin rfl rfl rfl) ?_
 refine st_pure rfl (.pickF rfl ((rfl))) ?_
 refine zg2 ?_
 refine wl_if rfl (fun h46r h46=>?_) (fun h46r h46=>?_)
 ·refine zg9 ?_
  exact retCT [] rfl rfl rfl cs (at_all cs rfl) T36 (.pure (by simp [LV.pure,pures,buildL])) rfl (.pure rfl)
 ·first | exact h46 hcm | omega
end Go.Proofs.YtgfbghoihhnahaaGreat
end
