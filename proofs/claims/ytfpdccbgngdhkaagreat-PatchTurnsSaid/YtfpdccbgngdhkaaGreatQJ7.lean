/- Texts LgV, Y14, Y15, Y16, LgW, Y17 of this proof, joined. -/
import Derived.Test.YtfpdccbgngdhkaaGreatQJ6
set_option linter.unusedVariables false
set_option linter.unusedSimpArgs false
section
set_option linter.unusedVariables false
set_option linter.unusedSimpArgs false
namespace Go.Lg
theorem Weak.handP {L:St} {t b sz len:Nat} {vals:List LV} {m:Bool} (h:L.slot t=.ref b sz 0 len) (hb:L.heap b=some ⟨sz,vals,m⟩) (hp:pures vals=true) (hl:len=vals.length) (h0:b≠0) :
  Weak L ((L.put (some t) (.list sz vals)).kill b):=by
 have h0':([b]:List Nat).contains 0=false:=by simp;omega
 have hi:Imm (L.frz [b]).heap (.ref b sz 0 len) (.list sz ((vals.drop 0).take len)):=imm_ref (bs:=[b]) hb (by simp) hp (by omega)
 rw [List.drop_zero,List.take_of_length_le (by omega)] at hi
 have e1:=(Weak.frz [b] h0' h hi).trans (Weak.kill _ b h0)
 have e2:((L.frz [b]).put (some t) (.list sz vals)).kill b=(L.put (some t) (.list sz vals)).kill b:=by
  unfold St.kill
  congr 1
  funext c
  rw [put_heap,put_heap]
  by_cases hcb:c=b
  ·simp [hcb]
  ·simp only [St.frz,if_neg hcb]
   cases L.heap c with
   | none=>rfl
   | some blk=>simp [hcb]
 rw [←e2]
 exact e1
section
variable {P:Program} {ops:Array Oper}
inductive StepV (P:Program) (ops:Array Oper) (o:Oper) (L L':St):Prop
 | base (h:Step P false ops o L L')
 | hand {M:St} {t b sz len:Nat} {vals:List LV} {m:Bool} (h:Step P false ops o L M) (ht:M.slot t=.ref b sz 0 len) (hb:M.heap b=some ⟨sz,vals,m⟩) (hp:pures vals=true) (hl:len=vals.length) (h0:b≠0)
   (e:L'=(M.put (some t) (.list sz vals)).kill b)
theorem ref_soft {b sz off len:Nat} (h:∀ c,(LV.ref b sz off len).kill c=.ref b sz off len):False:=by
 have:=h b
 simp [LV.kill] at this
theorem stepV_comm {L L2:St} {d:Nat} {v:LV} {o:Oper} (hv:∀ b,v.kill b=v) (hk:wideOp o.op=true) (hl:d∉o.looksAt ops) (hd:o.dst≠some d) (h:StepV P ops o (L.put (some d) v) L2) :
  ∃ L1,StepV P ops o L L1∧L2=L1.put (some d) v∧∀ t,o.dst≠some t→(∀ b,(L.slot t).kill b=L.slot t)→L1.slot t=L.slot t:=by
 cases h with
 | base h =>
  obtain⟨L1,h1,h2,h3⟩:=step_commW hv hk hl hd h
  exact⟨L1,.base h1,h2,h3⟩
 | @hand M t b sz len vals m h ht hb hp hln h0 e =>
  obtain⟨M1,h1,h2,h3⟩:=step_commW hv hk hl hd h
  subst h2
  have htd:t≠d:=fun q=>by
   subst q
   rw [put_slot,if_pos rfl] at ht
   subst ht
   exact ref_soft hv
  rw [put_slot,if_neg htd] at ht
  rw [put_heap] at hb
  refine⟨_,.hand h1 ht hb hp hln h0 rfl,?_,fun s hs hf=>?_⟩
  ·rw [e,put_comm M1 (Ne.symm htd),kill_put _ hv]
  ·show ((M1.put (some t) (.list sz vals)).slot s).kill b=_
   rw [put_slot]
   split
   ·rename_i q
    subst q
    rw [h3 s hs hf] at ht
    rw [ht] at hf
    exact(ref_soft hf).elim
   ·rw [h3 s hs hf,hf b]
def anyV (P:Program) (ops:Array Oper):Nat→Array Bool→St→(St→Prop)→Prop
 | 0,D,L,K=>Region.ready .any ops D=[]∧K L
 | fuel+1,D,L,K=>(Region.ready .any ops D=[]→K L)∧∀ i∈Region.ready .any ops D,∃ o L',ops[i]?=some o∧StepV P ops o L L'∧anyV P ops fuel (D.setIfInBounds i true) L' K
section
variable {D:Array Bool} {L:St} {K:St→Prop} {fuel:Nat}
theorem anyV_0 (hr:Region.ready .any ops D=[]) (k:K L):anyV P ops fuel D L K:=by
 cases fuel with
 | zero=>exact⟨hr,k⟩
 | succ n=>exact⟨fun _=>k,fun i hi=>by rw [hr] at hi;cases hi⟩
def stV (P:Program) (ops:Array Oper) (fuel:Nat) (D:Array Bool) (L:St) (K:St→Prop) (i:Nat):Prop:=∃ o L',ops[i]?=some o∧StepV P ops o L L'∧anyV P ops fuel (D.setIfInBounds i true) L' K
theorem stV_one {i:Nat} {o:Oper} (ho:ops[i]?=some o) (h:opsL P false ops [o] L (fun L'=>anyV P ops fuel (D.setIfInBounds i true) L' K)):stV P ops fuel D L K i:=by
 obtain⟨L',h1,h2⟩:=h
 exact⟨o,L',ho,.base h1,h2⟩
theorem stV_hand {i:Nat} {o:Oper} (t b sz len:Nat) (vals:List LV) (m:Bool) (ho:ops[i]?=some o)
  (h:opsL P false ops [o] L (fun M=>(M.slot t=.ref b sz 0 len∧M.heap b=some ⟨sz,vals,m⟩∧pures vals=true∧len=vals.length∧b≠0)∧anyV P ops fuel (D.setIfInBounds i true) ((M.put (some t) (.list sz vals)).kill b) K)):stV P ops fuel D L K i:=by
 obtain⟨M,h1,⟨g1,g2,g3,g4,g5⟩,h2⟩:=h
 exact⟨o,_,ho,.hand h1 g1 g2 g3 g4 g5 rfl,h2⟩
theorem anyV_1 (i:Nat) (hr:Region.ready .any ops D=[i]) (h:stV P ops fuel D L K i):anyV P ops (fuel+1) D L K:=by
 refine⟨fun e=>(by rw [hr] at e;cases e),fun j hj=>?_⟩
 rw [hr,List.mem_singleton] at hj
 subst hj
 exact h
theorem anyV_2 (i j:Nat) (hr:Region.ready .any ops D=[i,j]) (h:stV P ops fuel D L K i) (h2:stV P ops fuel D L K j):anyV P ops (fuel+1) D L K:=by
 refine⟨fun e=>(by rw [hr] at e;cases e),fun x hx=>?_⟩
 rw [hr] at hx
 simp only [List.mem_cons,List.not_mem_nil,or_false] at hx
 rcases hx with rfl | rfl
 ·exact h
 ·exact h2
end
section
variable {W w:World} {X Z0:Nat→Prop} {a:Act} {n:Nat}
theorem anyV_sound {K:St→Prop} {Q:Exit→Act→World→Prop} (hd:∀ o∈ops.toList,∀ t,o.dst=some t→t<n) (hq:∀ L' a' w',K L'→Sim n W X Z0 L' a' w'→Q .normal a' w') :
  ∀ (fuel:Nat) (D:Array Bool) (L:St) (a:Act) (w:World),Sim n W X Z0 L a w→anyV P ops fuel D L K→wpAny P .any ops Q fuel D a w
 | 0,D,L,a,w,hs,h=>⟨h.1,hq L a w h.2 hs⟩
 | fuel+1,D,L,a,w,hs,h=>by
   refine⟨fun e=>hq L a w (h.1 e) hs,fun i hi=>?_⟩
   obtain⟨o,L',h1,h2,h3⟩:=h.2 i hi
   unfold wpOp
   rw [h1]
   simp only
   have hdo:∀ t,o.dst=some t→t<n:=hd o (by rw [Array.mem_toList_iff];exact Array.mem_of_getElem? h1)
   have:=show if Region.wanted o (yielded ops a.tmps) then o.wp P a w (wpAny P .any ops Q fuel (D.setIfInBounds i true)) Q else wpAny P .any ops Q fuel (D.setIfInBounds i true) (a.put o.dst undef) w from by
    cases h2 with
    | base h2=>exact step_sound (Q:=Q) (K:=wpAny P .any ops Q fuel (D.setIfInBounds i true)) hs h2 hdo (fun a' w' hs'=>anyV_sound hd hq fuel _ L' a' w' hs' h3)
    | hand h2 g1 g2 g3 g4 g5 e =>
     subst e
     exact step_sound (Q:=Q) (K:=wpAny P .any ops Q fuel (D.setIfInBounds i true)) hs h2 hdo (fun a' w' hs'=>anyV_sound hd hq fuel _ _ a' w' (Weak.handP g1 g2 g3 g4 g5 _ _ _ _ _ _ hs') h3)
   split
   ·rename_i hw;rw [if_pos hw] at this;exact .inl this
   ·rename_i hw;rw [if_neg hw] at this;exact this
end
theorem wl_regV {L L0:St} {Q:LEx→St→Prop} {id:Nat} (hfol:P.follows .mixedOrders=true) (hw:Weak L L0) (h:anyV P ops ops.size (Array.replicate ops.size false) L0 (Q .normal)):wpL P (.region id ops true) Q L:=by
 refine⟨L0,hw,.inr (.inr fun n W X Z0 a w hs hd id=>?_)⟩
 have hd':∀ o∈ops.toList,∀ t,o.dst=some t→t<n:=fun o ho t ht=>by
  simp only [dstsOk,List.all_eq_true] at hd
  have:=hd o ho
  rw [ht] at this
  simpa using this
 exact wp_region_any hfol (anyV_sound hd' (fun L' a' w' hk hs'=>⟨L',hk,hs'⟩) _ _ L0 a _ (hs.drew rfl rfl rfl rfl) h)
theorem anyV_hoist {m:Nat} {K:St→Prop} {L:St} {D:Array Bool} {d:Nat} {v:LV} (i:Nat) {o:Oper} (ho:ops[i]?=some o) (hdst:o.dst=some d) (hok:hoistOkW ops i D=true) (hv:OpP P (fun _=>none) L.ev o.op v)
  (hfv:∀ b,v.kill b=v) (hfo:firmAll L o.op.operands.toList)
  (h:anyV P ops m (D.setIfInBounds i true) (L.put (some d) v) K):anyV P ops (m+1) D L K:=by
 have getD_of:∀ i o,ops[i]?=some o→ops.getD i default=o:=fun i o h=>by rw [Array.getD_eq_getD_getElem?,h];rfl
 have hin:i<ops.size:=(Array.getElem?_eq_some_iff.1 ho).1
 let C:Array Bool→Prop:=fun D=>D.size=ops.size∧D.getD i false=false∧(∀ j∈dirs o,D.getD j false=true)∧∀ j oj,ops[j]?=some oj→j≠i→D.getD j false=false →
  wideOp oj.op=true∧oj.dst≠some d∧(d∈oj.looksAt ops→i∈dirs oj)∧∀ e,oj.dst=some e→e∉o.looksAt ops
 unfold hoistOkW at hok
 rw [getD_of i o ho,hdst] at hok
 simp only [Bool.and_eq_true,List.all_eq_true,List.mem_range,Bool.or_eq_true,beq_iff_eq,Bool.not_eq_true',Option.isNone_iff_eq_none,bne_iff_ne,ne_eq] at hok
 obtain⟨⟨⟨⟨⟨hsz,hni⟩,hrd⟩,hgd⟩,hslim⟩,hall⟩:=hok
 have hC:C D:=by
  refine⟨hsz,by rw [getD_sz (by omega) false true];exact hni,hrd,fun j oj hj hne hDj=>?_⟩
  have hjl:j<ops.size:=(Array.getElem?_eq_some_iff.1 hj).1
  have:=hall j hjl
  rw [getD_of j oj hj] at this
  rcases this with(q | q) | q
  ·exact absurd q hne
  ·rw [getD_sz (by omega) true false,hDj] at q;cases q
  ·obtain⟨⟨⟨q1,q2⟩,q3⟩,q4⟩:=q
   refine⟨q1,q2,fun hm=>?_,fun e he hm=>?_⟩
   ·rcases q3 with q | q
    ·rw [List.contains_iff_mem.2 hm] at q;cases q
    ·exact List.contains_iff_mem.1 q
   ·rw [he] at q4
    simp only [Bool.not_eq_true'] at q4
    rw [List.contains_iff_mem.2 hm] at q4;cases q4
 have hstepi:∀ L:St,OpP P (fun _=>none) L.ev o.op v→Step P false ops o L (L.put (some d) v):=fun L hv=>by
  refine .val (fr:=[]) (H1:=L.heap) (r:=v) (by unfold GuardIs;rw [hgd]) (Heap.le_refl _) (fun _ _ hh=>by cases hh) (.pure (hv.le fun b blk h=>by cases h)) ?_
  rw [hdst];rfl
 clear hsz hni hrd hall
 have hfo':∀ x∈o.op.operands,∀ b,(L.ev x).kill b=L.ev x:=fun x hx=>firmAll_mem hfo x (Array.mem_toList_iff.2 hx)
 clear hfo
 have main:∀ (n:Nat) (D:Array Bool) (L:St),C D→OpP P (fun _=>none) L.ev o.op v→(∀ x∈o.op.operands,∀ b,(L.ev x).kill b=L.ev x)→anyV P ops n (D.setIfInBounds i true) (L.put (some d) v) K→anyV P ops (n+1) D L K:=by
  intro n
  induction n with
  | zero =>
   intro D L ⟨c1,c2,c3,c4⟩ hv _ hh
   have hri:i∈Region.ready .any ops D:=(ready_spec c1).2 ⟨o,ho,by rw [getD_sz (by omega) true false];exact c2,c3⟩
   refine⟨fun hr=>(by rw [hr] at hri;cases hri),fun j hj=>?_⟩
   by_cases hji:j=i
   ·subst hji
    exact⟨o,_,ho,.base (hstepi L hv),hh⟩
   ·exfalso
    obtain⟨oj,h1,h2,h3⟩:=(ready_spec c1).1 hj
    have:j∈Region.ready .any ops (D.setIfInBounds i true):=(ready_spec (by simpa using c1)).2 ⟨oj,h1,by
     rw [Array.getD_eq_getD_getElem?,Array.getElem?_setIfInBounds_ne (Ne.symm hji),←Array.getD_eq_getD_getElem?];exact h2,fun k hk=>by
     by_cases hki:i=k
     ·subst hki
      rw [Array.getD_eq_getD_getElem?,Array.getElem?_setIfInBounds_self_of_lt (by omega)];rfl
     ·rw [Array.getD_eq_getD_getElem?,Array.getElem?_setIfInBounds_ne hki,←Array.getD_eq_getD_getElem?];exact h3 k hk⟩
    rw [hh.1] at this;cases this
  | succ n ih =>
   intro D L ⟨c1,c2,c3,c4⟩ hv hfo hh
   have hri:i∈Region.ready .any ops D:=(ready_spec c1).2 ⟨o,ho,by rw [getD_sz (by omega) true false];exact c2,c3⟩
   refine⟨fun hr=>(by rw [hr] at hri;cases hri),fun j hj=>?_⟩
   by_cases hji:j=i
   ·subst hji
    exact⟨o,_,ho,.base (hstepi L hv),hh⟩
   ·obtain⟨oj,h1,h2,h3⟩:=(ready_spec c1).1 hj
    have hjl:j<ops.size:=(Array.getElem?_eq_some_iff.1 h1).1
    have hDj:D.getD j false=false:=by rw [getD_sz (by omega) false true];exact h2
    have hji2:j∈Region.ready .any ops (D.setIfInBounds i true):=(ready_spec (by simpa using c1)).2 ⟨oj,h1,by
     rw [Array.getD_eq_getD_getElem?,Array.getElem?_setIfInBounds_ne (Ne.symm hji),←Array.getD_eq_getD_getElem?];exact h2,fun k hk=>by
     by_cases hki:i=k
     ·subst hki
      rw [Array.getD_eq_getD_getElem?,Array.getElem?_setIfInBounds_self_of_lt (by omega)];rfl
     ·rw [Array.getD_eq_getD_getElem?,Array.getElem?_setIfInBounds_ne hki,←Array.getD_eq_getD_getElem?];exact h3 k hk⟩
    obtain⟨oj',L2,g1,g2,g3⟩:=hh.2 j hji2
    rw [h1] at g1;cases g1
    obtain⟨k1,k2,k3,k4⟩:=c4 j oj h1 hji hDj
    have hnl:d∉oj.looksAt ops:=fun hm=>by
     have:=h3 i (k3 hm)
     rw [c2] at this;cases this
    obtain⟨L1,s1,s2,s3⟩:=stepV_comm hfv k1 hnl k2 g2
    have hsame:∀ x∈o.op.operands,L1.ev x=L.ev x:=fun x hx=>by
     cases x with
     | tmp t =>
      have ht:t∈o.looksAt ops:=by
       unfold Oper.looksAt
       simp only [List.mem_append,List.mem_filterMap]
       exact .inl ⟨.tmp t,by simpa using hx,rfl⟩
      exact s3 t (fun q=>k4 t q ht) (hfo _ hx)
     | const v=>rfl
     | func f=>rfl
     | global f=>rfl
    refine⟨oj,L1,h1,s1,ih (D.setIfInBounds j true) L1 ⟨by simpa using c1,?_,fun k hk=>?_,fun k ok hk hne hDk=>?_⟩ (hv.cong hslim hsame) (fun x hx b=>by rw [hsame x hx];exact hfo x hx b) ?_⟩
    ·rw [Array.getD_eq_getD_getElem?,Array.getElem?_setIfInBounds_ne hji,←Array.getD_eq_getD_getElem?];exact c2
    ·by_cases hjk:j=k
     ·subst hjk
      rw [Array.getD_eq_getD_getElem?,Array.getElem?_setIfInBounds_self_of_lt (by omega)];rfl
     ·rw [Array.getD_eq_getD_getElem?,Array.getElem?_setIfInBounds_ne hjk,←Array.getD_eq_getD_getElem?];exact c3 k hk
    ·by_cases hjk:j=k
     ·subst hjk
      rw [Array.getD_eq_getD_getElem?,Array.getElem?_setIfInBounds_self_of_lt (by omega)] at hDk
      cases hDk
     ·rw [Array.getD_eq_getD_getElem?,Array.getElem?_setIfInBounds_ne hjk,←Array.getD_eq_getD_getElem?] at hDk
      exact c4 k ok hk hne hDk
    ·rw [←s2]
     have:(D.setIfInBounds j true).setIfInBounds i true=(D.setIfInBounds i true).setIfInBounds j true:=by
      refine Array.ext_getElem? fun k=>?_
      by_cases q1:i=k
      ·subst q1
       rw [Array.getElem?_setIfInBounds_self_of_lt (by simp;omega),Array.getElem?_setIfInBounds_ne hji,Array.getElem?_setIfInBounds_self_of_lt (by omega)]
      ·by_cases q2:j=k
       ·subst q2
        rw [Array.getElem?_setIfInBounds_ne q1,Array.getElem?_setIfInBounds_self_of_lt (by omega),Array.getElem?_setIfInBounds_self_of_lt (by simp;omega)]
       ·rw [Array.getElem?_setIfInBounds_ne q1,Array.getElem?_setIfInBounds_ne q2,Array.getElem?_setIfInBounds_ne q2,Array.getElem?_setIfInBounds_ne q1]
     rw [this];exact g3
 exact main m D L hC hv hfo' h
end
end Go.Lg
end
section
set_option linter.unusedVariables false
set_option linter.unusedSimpArgs false
set_option maxHeartbeats 8000000
set_option maxRecDepth 100000
attribute [local irreducible] Go.Lg.opsL Go.Lg.wpL Go.Lg.thenL Go.Lg.blockL
namespace Go.Proofs.YtfpdccbgngdhkaaGreat
open Go.Lg
structure M3 where
 a:V3
 b:V3
 c:V3
 t:V3
 deriving Inhabited
def mpL (m:M3):LV:=.agg [.agg [ptL m.a,ptL m.b,ptL m.c],ptL m.t]
theorem mpE:EncOK mpL 36 true:=⟨fun m=>by simp [mpL,LV.csize,csizes,ptE.csize],fun _=>rfl,fun m=>by simp [mpL,LV.pure,pures,ptE.pure]⟩
def m3t (m:M3) (p:V3):V3:=⟨v3d m.a p,v3d m.b p,v3d m.c p⟩
def m3p (m:M3) (p:V3):V3:=v3a (m3t m p) m.t
def mvP (m:M3) (q:PoR):PoR:=⟨m3p m q.p,q.w⟩
def bdM (R:Nat) (m:M3):Prop:=bd3 R m.a∧bd3 R m.b∧bd3 R m.c∧bd3 R m.t
theorem m3t_bd {R S:Nat} {m:M3} {p:V3} (hm:bdM R m) (hp:bd3 S p):bd3 (3*(R+S)+4) (m3t m p):=⟨v3d_rl hm.1 hp,v3d_rl hm.2.1 hp,v3d_rl hm.2.2.1 hp⟩
theorem m3p_bd {R S:Nat} {m:M3} {p:V3} (hm:bdM R m) (hp:bd3 S p):bd3 (3*(R+S)+5+R) (m3p m p):=by
 obtain⟨a1,a2,a3⟩:=m3t_bd hm hp
 obtain⟨t1,t2,t3⟩:=hm.2.2.2
 have h1:=rl_add (m3t m p).x m.t.x
 have h2:=rl_add (m3t m p).y m.t.y
 have h3:=rl_add (m3t m p).z m.t.z
 refine⟨?_,?_,?_⟩
 ·show rl ((m3t m p).x+m.t.x)≤_
  omega
 ·show rl ((m3t m p).y+m.t.y)≤_
  omega
 ·show rl ((m3t m p).z+m.t.z)≤_
  omega
instance:EC Tryz.prog 34 mpL 36 true ⟨⟨0,0,0⟩,⟨0,0,0⟩,⟨0,0,0⟩,⟨0,0,0⟩⟩:=⟨mpE,Z34,T34⟩
theorem pt_at (p:V3):(ptL p).at 0 9 true=some (ptL p):=at_all (ptE.csize p) rfl
theorem mp_at0 (m:M3):(mpL m).at 0 9 true=some (ptL m.a):=by
 simp [mpL,LV.at,atFs,LV.csize,csizes,ptE.csize,pt_at]
theorem mp_at9 (m:M3):(mpL m).at 9 9 true=some (ptL m.b):=by
 simp [mpL,LV.at,atFs,LV.csize,csizes,ptE.csize,pt_at]
theorem mp_at18 (m:M3):(mpL m).at 18 9 true=some (ptL m.c):=by
 simp [mpL,LV.at,atFs,LV.csize,csizes,ptE.csize,pt_at]
theorem mp_at27 (m:M3):(mpL m).at 27 9 true=some (ptL m.t):=by
 simp [mpL,LV.at,atFs,LV.csize,csizes,ptE.csize,pt_at]
theorem mpL_kill (m:M3) (b:Nat):(mpL m).kill b=mpL m:=LV.kill_pure b _ (mpE.pure m)
section
variable {P:Program} {H:Heap} {ρ:Operand→LV} {T E:TypeId}
theorem bdM3 {o0 o1 o2:Operand} {a b c:V3} [u:UN P T (.array 3 E)] [t:TI P E 9 true] [z:ZI P T (.agg [ptL ⟨0,0,0⟩,ptL ⟨0,0,0⟩,ptL ⟨0,0,0⟩])] (h0:ρ o0=ptL a) (h1:ρ o1=ptL b) (h2:ρ o2=ptL c) :
  OpP P H ρ (.build T #[(0,o0),(1,o1),(2,o2)]) (.agg [ptL a,ptL b,ptL c]):=by
 have:=OpP.bda (H:=H) (ρ:=ρ) (ps:=#[(0,o0),(1,o1),(2,o2)]) (u:=u) (t:=t) (z:=z) (by simp [lay,ptE.csize,ptE.isAgg]) (by
  intro p hp
  simp only [List.mem_cons,List.not_mem_nil,or_false] at hp
  rcases hp with rfl | rfl | rfl
  ·exact⟨_,rfl,by rw [h0];simp [lay,ptE.csize,ptE.isAgg],by rw [h0];exact LV.pure_ne_any (ptE.pure _),by rw [h0];exact LV.pure_ne_tup (ptE.pure _)⟩
  ·exact⟨_,rfl,by rw [h1];simp [lay,ptE.csize,ptE.isAgg],by rw [h1];exact LV.pure_ne_any (ptE.pure _),by rw [h1];exact LV.pure_ne_tup (ptE.pure _)⟩
  ·exact⟨_,rfl,by rw [h2];simp [lay,ptE.csize,ptE.isAgg],by rw [h2];exact LV.pure_ne_any (ptE.pure _),by rw [h2];exact LV.pure_ne_tup (ptE.pure _)⟩)
 simpa only [buildL,List.map,List.foldl,List.set,h0,h1,h2] using this
theorem bdMp {o0 o1:Operand} {a b c t:V3} [z:ZI P T (.agg [.agg [ptL ⟨0,0,0⟩,ptL ⟨0,0,0⟩,ptL ⟨0,0,0⟩],ptL ⟨0,0,0⟩])] [s:SI P T [(27,true),(9,true)]] (h0:ρ o0=.agg [ptL a,ptL b,ptL c]) (h1:ρ o1=ptL t) :
  OpP P H ρ (.build T #[(0,o0),(1,o1)]) (mpL ⟨a,b,c,t⟩):=by
 have hp:LV.pure (.agg [ptL a,ptL b,ptL c])=true:=by simp [LV.pure,pures,ptE.pure]
 have:=OpP.bd (H:=H) (ρ:=ρ) (ps:=#[(0,o0),(1,o1)]) (z:=z) (s:=s) (by simp [lay,LV.csize,csizes,ptE.csize,ptE.isAgg,isAgg_agg]) (by
  intro q hq
  simp only [List.mem_cons,List.not_mem_nil,or_false] at hq
  rcases hq with rfl | rfl
  ·exact⟨_,rfl,by rw [h0];simp [lay,ptE.csize,LV.csize,csizes,isAgg_agg],by rw [h0];exact LV.pure_ne_any hp,by rw [h0];exact LV.pure_ne_tup hp⟩
  ·exact⟨_,rfl,by rw [h1];simp [lay,ptE.csize,ptE.isAgg],by rw [h1];exact LV.pure_ne_any (ptE.pure _),by rw [h1];exact LV.pure_ne_tup (ptE.pure _)⟩)
 simp only [buildL,List.map,List.foldl,List.set,h0,h1] at this
 exact this
end
instance:ZI Tryz.prog 32 (.agg [ptL ⟨0,0,0⟩,ptL ⟨0,0,0⟩,ptL ⟨0,0,0⟩]):=⟨Z32⟩
instance:ZI Tryz.prog 34 (.agg [.agg [ptL ⟨0,0,0⟩,ptL ⟨0,0,0⟩,ptL ⟨0,0,0⟩],ptL ⟨0,0,0⟩]):=⟨Z34⟩
instance:AE Tryz.prog 34 mpL 36 true ⟨⟨0,0,0⟩,⟨0,0,0⟩,⟨0,0,0⟩,⟨0,0,0⟩⟩:=⟨mpE,Z34⟩
namespace H_c_FTurn
theorem zSm {p q:Prop} (k:q) (e:p=q:=by simp only [e1,e2,e3,e4,p1,p2,p3,q1,q2,q3,l1,t0,t1,r1,r2,r3,r4,Nat.zero_add,Nat.reduceMul,Nat.reduceAdd,b1,b2,b3,b4,b5,b6,i1,i2,i3,i4,i5,i6,Nat.reduceBEq,List.set_cons_zero,List.set_cons_succ,Nat.reduceEqDiff,reduceIte,if_true,if_false,ptL_kill,poL_kill,kills_map ptE,kills_map poE,kills_map ratE,ratL_kill,spL_kill,LV.kill,kills];exact rfl):p:=e.mpr k
end H_c_FTurn
open H_c_FTurn in
theorem c_FTurn (m:M3) (p:V3) (R:Nat) (hR:R≤210000000) (hm:bdM R m) (hp:bd3 R p):CallP Tryz.prog 21 [mpL m,ptL p] (ptL (m3t m p)):=by
 obtain⟨hm1,hm2,hm3,hm4⟩:=hm
 refine fnP Tryz.func21 (ht:=(fun r=>LV.ren_pure r _ (ptE.pure _))) ?_
 refine zg8 ?_
 refine wl_regD 16 (by decide +kernel) ?_
 refine zg2 ?_
 refine st_pure rfl (.loadE rfl rfl rfl rfl (mpE.csize m) (mp_at0 m) T31) ?_
 refine zg1 ?_
 refine cp am2 (c_FDot m.a p R (by omega) hm1 hp) ?_
 refine zg2 ?_
 refine st_pure rfl (.loadE rfl rfl rfl rfl (mpE.csize m) (mp_at9 m) T31) ?_
 refine zg1 ?_
 refine cp am2 (c_FDot m.b p R (by omega) hm2 hp) ?_
 refine zg2 ?_
 refine st_pure rfl (.loadE rfl rfl rfl rfl (mpE.csize m) (mp_at18 m) T31) ?_
 refine zg1 ?_
 refine cp am2 (c_FDot m.c p R (by omega) hm3 hp) ?_
 refine zg5 ?_
 exact retC [] rfl rfl rfl cs (at_all cs rfl) T31 (.pure pu)
namespace H_c_FApply
theorem zSm {p q:Prop} (k:q) (e:p=q:=by simp only [e1,e2,e3,e4,p1,p2,p3,q1,q2,q3,l1,t0,t1,r1,r2,r3,r4,Nat.zero_add,Nat.reduceMul,Nat.reduceAdd,b1,b2,b3,b4,b5,b6,i1,i2,i3,i4,i5,i6,Nat.reduceBEq,List.set_cons_zero,List.set_cons_succ,Nat.reduceEqDiff,reduceIte,if_true,if_false,ptL_kill,poL_kill,kills_map ptE,kills_map poE,kills_map ratE,ratL_kill,spL_kill,LV.kill,kills];exact rfl):p:=e.mpr k
end H_c_FApply
open H_c_FApply in
theorem c_FApply (m:M3) (p:V3) (R:Nat) (hR:R≤210000000) (hm:bdM R m) (hp:bd3 R p) (hR2:R≤1000000):CallP Tryz.prog 214 [mpL m,ptL p] (ptL (m3p m p)):=by
 have hm4:=hm.2.2.2
 have ht:=m3t_bd hm hp
 have hmp:LV.pure (mpL m)=true:=mpE.pure m
 refine fnP Tryz.func214 (ht:=(fun r=>LV.ren_pure r _ (ptE.pure _))) ?_
 refine zg8 ?_
 refine wl_regD 6 (by decide +kernel) ?_
 refine st_pure rfl (.loadE rfl rfl rfl rfl (mpE.csize m) (at_all (mpE.csize m) rfl) T34) ?_
 refine zg1 ?_
 refine cp am2 (c_FTurn m p R hR hm hp) ?_
 refine zg1 ?_
 refine st_pure rfl (.loadE rfl rfl rfl rfl (mpE.csize m) (mp_at27 m) T31) ?_
 refine cp am2 (c_FVAdd (m3t m p) m.t (6*R+4) (by omega) (ht.le (by omega)) (hm4.le (by omega))) ?_
 refine zg4 ?_
 exact retC [] rfl rfl rfl cs (at_all cs rfl) T31 (.pure pu)
namespace H_c_MovePoles
theorem zSm {p q:Prop} (k:q) (e:p=q:=by simp only [e1,e2,e3,e4,p1,p2,p3,q1,q2,q3,l1,t0,t1,r1,r2,r3,r4,Nat.zero_add,Nat.reduceMul,Nat.reduceAdd,b1,b2,b3,b4,b5,b6,i1,i2,i3,i4,i5,i6,Nat.reduceBEq,etk,egr,mpL_kill,kills_map poE,List.length_map,prL_kill,kills_map prE,dfr,dfq,take_map_len,map_snoc,len_snoc,List.length_cons,List.length_nil,List.nil_append,List.map_nil,List.take_nil,List.append_nil,List.set_cons_zero,List.set_cons_succ,Nat.reduceEqDiff,reduceIte,if_true,if_false,ptL_kill,poL_kill,kills_map ptE,kills_map poE,kills_map ratE,ratL_kill,spL_kill,LV.kill,kills];exact rfl):p:=e.mpr k
end H_c_MovePoles
open H_c_MovePoles in
theorem c_MovePoles (m:M3) (po:List PoR) (R:Nat) (hR:R≤1000000) (hm:bdM R m) (hl:po.length≤100) (hok:∀ q∈po,okP R q):CallP Tryz.prog 146 [.list 12 (po.map poL),mpL m] (.list 12 ((po.map (mvP m)).map poL)):=by
 have hmp:LV.pure (mpL m)=true:=mpE.pure m
 refine fnP Tryz.func146 (ht:=(fun g=>LV.ren_pure g _ (pure_lst poE 12 _))) ?_
 have etk:True:=trivial
 have egr:True:=trivial
 refine zg18 ?_
 refine wl_weak (Weak.own (t:=5) 95 12 rfl rfl) ?_
 refine lp1 (fun(i:Nat) L=>(((((St.mk L.slot (hp [(3,⟨36,[mpL m],true⟩),(95,⟨12,((po.map (mvP m)).take i).map poL,true⟩)])).put (some 0) (.list 12 (po.map poL))).put (some 3) (.eptr 3 36 0 0)).put (some 5) (.ref 95 12 0 i)).put (some 6) (nI64 i))) (fun i=>i≤po.length) (fun i=>po.length-i) 0 (Nat.zero_le _) ?_
 rintro i L1 hi
 refine zg9 ?_
 refine wl_if rfl (fun h10r h10=>?_) (fun h10r h10=>?_)
 ·have hi2:i<po.length:=by omega
  have hq:=hok _ (getD_memP hi2)
  have etk:(((po.map (mvP m)).take i).map poL).take i=((po.map (mvP m)).take i).map poL:=List.take_of_length_le (by simp;omega)
  have egr:=mapT (mvP m) po default hi2
  refine zg4 ?_
  refine wl_regD 15 (by decide +kernel) ?_
  refine zg1 ?_
  refine st_pure rfl (.loadE rfl rfl rfl rfl (mpE.csize m) (at_all (mpE.csize m) rfl) T34) ?_
  refine zg5 ?_
  refine cp am2 (c_FApply m (po.getD i default).p R (by omega) hm hq.1 hR) ?_
  refine zg5 ?_
  refine s0bd (bdPo rfl rfl) ?_
  refine zg1 ?_
  refine st_store rfl (.appX (d:=95) (news:=[poL (mvP m (po.getD i default))]) rfl rfl rfl rfl (by simp;omega) (.inl rfl) (by decide) Tryz.underlying60 Tryz.underlying60 Z62 T62 cs B62 (.inl ⟨27,0,_,rfl,by decide,rfl,rfl,by simp,rfl,by simp [pures,poE.pure]⟩) (by simp;omega) (by simp;omega) (by decide)) ?_
  refine zg4 ?_
  refine wl_regW (Weak.kill _ 27) ?_
  refine zg1 ?_
  refine st_pure rfl (.bin rfl rfl (add1N (by omega))) ?_
  refine zg3 ?_
  exact nx1 (i+1) (by omega)
 ·obtain rfl:i=po.length:=by omega
  rw [(List.take_of_length_le (by rw [List.length_map];omega):(po.map (mvP m)).take po.length=po.map (mvP m))]
  refine zg12 ?_
  exact ret1f [95] rfl rfl (imm_refm poE rfl rfl (by simp))
namespace H_c_Move10
theorem zSm {p q:Prop} (k:q) (e:p=q:=by simp only [e1,e2,e3,e4,p1,p2,p3,q1,q2,q3,l1,t0,t1,r1,r2,r3,r4,Nat.zero_add,Nat.reduceMul,Nat.reduceAdd,b1,b2,b3,b4,b5,b6,i1,i2,i3,i4,i5,i6,Nat.reduceBEq,mpL_kill,kills_map ratE,kills_map poE,prL_kill,kills_map prE,dfr,dfq,take_map_len,map_snoc,len_snoc,List.length_cons,List.length_nil,List.nil_append,List.map_nil,List.take_nil,List.append_nil,List.set_cons_zero,List.set_cons_succ,Nat.reduceEqDiff,reduceIte,if_true,if_false,ptL_kill,poL_kill,kills_map ptE,kills_map poE,kills_map ratE,ratL_kill,spL_kill,LV.kill,kills];exact rfl):p:=e.mpr k
end H_c_Move10
open H_c_Move10 in
theorem c_Move10 (d:Nat) (kV:List Rat) (m:M3) (po:List PoR) (R:Nat) (hR:R≤1000000) (hm:bdM R m) (hl:po.length≤100) (hkv:kV.length≤100) (hok:∀ q∈po,okP R q):CallP Tryz.prog 74 [.agg [nI64 d,.list 3 (kV.map ratL),.list 12 (po.map poL)],mpL m] (.agg [nI64 d,.list 3 (kV.map ratL),.list 12 ((po.map (mvP m)).map poL)]):=by
 have hmp:LV.pure (mpL m)=true:=mpE.pure m
 have hcp:LV.pure (.agg [nI64 d,.list 3 (kV.map ratL),.list 12 (po.map poL)])=true:=by simp [LV.pure,pures,pures_map ratE,pures_map poE]
 have hpk:=pures_map ratE kV
 have hpo:=pures_map poE po
 refine fnP Tryz.func74 (ht:=(fun g=>LV.ren_pure g _ (by simp [LV.pure,pures,pures_map ratE,pures_map poE,-List.map_map]))) ?_
 refine zg8 ?_
 refine wl_regAW ((Weak.boxp (t:=3) (b:=3) rfl rfl (mpE.csize m) rfl hmp).trans (Weak.boxp (t:=2) (b:=2) rfl rfl cs rfl hcp)) ?_
 refine any_hoistW 0 rfl rfl (by decide +kernel) faA fmV fmA ?_
 refine any_hoistW 1 rfl rfl (by decide +kernel) ldA fmV fmA ?_
 refine any_hoistW 3 rfl rfl (by decide +kernel) faA fmV fmA ?_
 refine any_hoistW 4 rfl rfl (by decide +kernel) (.ldbx rfl hpk rfl rfl) fmV fmA ?_
 refine any_hoistW 6 rfl rfl (by decide +kernel) faA fmV fmA ?_
 refine any_hoistW 7 rfl rfl (by decide +kernel) (.ldbx rfl hpo rfl rfl) fmV fmA ?_
 refine any_hoistW 8 rfl rfl (by decide +kernel) (.ldbx rfl hmp (mpE.csize m) rfl) (fun b=>LV.kill_pure b _ hmp) fmA ?_
 refine any_1 2 _ (by decide +kernel) rfl ?_
 refine zg1 ?_
 refine st_nil ?_
 refine any_1 5 _ (by decide +kernel) rfl ?_
 refine st_store rfl (.appX (d:=7) (news:=kV.map ratL) rfl rfl rfl rfl (by simp) (.inl rfl) (by decide) Tryz.underlying36 Tryz.underlying36 Z29a T29 rfl B29 (.inr (.inl rfl)) (by simp;omega) (by simp;omega) (by decide)) ?_
 refine st_nil ?_
 refine any_1 9 _ (by decide +kernel) rfl ?_
 refine zSm ?_
 refine st_callP rfl (.cons (.pure (pure_lst poE 12 po)) (.cons (.pure hmp) .nil)) (c_MovePoles m po R hR hm hl hok) ?_
 refine st_nil ?_
 refine any_1 10 _ (by decide +kernel) rfl ?_
 refine zg1 ?_
 refine st_nil ?_
 refine any_1 11 _ (by decide +kernel) rfl ?_
 refine zg1 ?_
 refine st_nil ?_
 refine any_0 (by decide +kernel) ?_
 refine zg2 ?_
 exact retC [7] rfl rfl rfl cs (at_all cs rfl) T113 (.agg (.cons (.pure rfl) (.cons (imm_refm ratE rfl rfl (by simp)) (.cons (.pure (pure_lst poE 12 _)) .nil))))
def dmV (l:List Int) (k:Nat):M3:=⟨d3V l k,d3V l (d3K l k),d3V l (d3K l (d3K l k)),d3V l (d3K l (d3K l (d3K l k)))⟩
def dmK (l:List Int) (k:Nat):Nat:=d3K l (d3K l (d3K l (d3K l k)))
theorem dm_bd (l:List Int) (k:Nat):bdM 1 (dmV l k):=⟨d3_rl _ _,d3_rl _ _,d3_rl _ _,d3_rl _ _⟩
theorem dmK_le {l:List Int} {k:Nat} (hl:l.length≤500) (hk:k≤500):dmK l k≤500:=d3K_le hl (d3K_le hl (d3K_le hl (d3K_le hl hk)))
namespace H_c_DMap
theorem zSm {p q:Prop} (k:q) (e:p=q:=by simp only [e1,e2,e3,e4,p1,p2,p3,q1,q2,q3,l1,t0,t1,r1,r2,r3,r4,Nat.zero_add,Nat.reduceMul,Nat.reduceAdd,b1,b2,b3,b4,b5,b6,i1,i2,i3,i4,i5,i6,Nat.reduceBEq,l1,List.set_cons_zero,List.set_cons_succ,Nat.reduceEqDiff,reduceIte,if_true,if_false,ptL_kill,poL_kill,kills_map ptE,kills_map poE,kills_map ratE,ratL_kill,spL_kill,LV.kill,kills];exact rfl):p:=e.mpr k
end H_c_DMap
open H_c_DMap in
theorem c_DMap (l:List Int) (k:Nat) (hl:l.length≤500) (hk:k≤500):CallOKM Tryz.prog 10 ⟨2,[diceL l k],true⟩ [.eptr 0 2 0 0] (mpL (dmV l k)) ⟨2,[diceL l (dmK l k)],true⟩:=by
 have h1:=d3K_le hl hk
 have h2:=d3K_le hl h1
 have h3:=d3K_le hl h2
 refine fnM Tryz.func10 ?_
 refine zg8 ?_
 refine st_callMp 0 rfl rfl rfl (dice_pure l _) (.cons .ptr .nil) .ptr (c_DPoint l k hl hk) rfl (dice_pure l _) (ptE.pure _) ?_
 refine zg1 ?_
 refine st_callMp 0 rfl rfl rfl (dice_pure l _) (.cons .ptr .nil) .ptr (c_DPoint l (d3K l k) hl h1) rfl (dice_pure l _) (ptE.pure _) ?_
 refine zg1 ?_
 refine st_callMp 0 rfl rfl rfl (dice_pure l _) (.cons .ptr .nil) .ptr (c_DPoint l (d3K l (d3K l k)) hl h2) rfl (dice_pure l _) (ptE.pure _) ?_
 refine st_pure rfl (bdM3 rfl rfl rfl) ?_
 refine zg1 ?_
 refine st_callMp 0 rfl rfl rfl (dice_pure l _) (.cons .ptr .nil) .ptr (c_DPoint l (d3K l (d3K l (d3K l k))) hl h3) rfl (dice_pure l _) (ptE.pure _) ?_
 refine st_pure rfl (bdMp rfl rfl) ?_
 refine st_store rfl (.stp (v:=mpL (dmV l k)) rfl rfl rfl rfl (mpE.csize _) (mpE.csize _) rfl (put_all (by rw [mpE.csize,mpE.csize]) rfl rfl) ⟨by simp [mpL],by simp [mpL]⟩) ?_
 refine zg3 ?_
 exact retMC rfl rfl (mpE.csize _) (at_all (mpE.csize _) rfl) T34 (.pure (mpE.pure _)) rfl rfl (dice_pure l _)
def lin4 (p q r s:Rat) (c c0 c1 c2 c3:List Rat):Prop:=∀ k,c.getD k 0=p*c0.getD k 0+q*c1.getD k 0+r*c2.getD k 0+s*c3.getD k 0
theorem evT_lin4 {U V:Nat} {p q r s:Rat} {c c0 c1 c2 c3:List Rat} (h:lin4 p q r s c c0 c1 c2 c3) (u v:Rat):evT U V c u v=p*evT U V c0 u v+q*evT U V c1 u v+r*evT U V c2 u v+s*evT U V c3 u v:=by
 rw [evT_F,evT_F,evT_F,evT_F,evT_F,←evF_lin4]
 exact evF_congr u v fun i j _ _=>h _
def dLin (U V Ud Vd:Nat) (D:List Rat→List Rat):Prop:=∀ (p q r s:Rat) (c c0 c1 c2 c3:List Rat),c.length=(U+1)*(V+1)→c0.length=(U+1)*(V+1)→c1.length=(U+1)*(V+1)→c2.length=(U+1)*(V+1)→c3.length=(U+1)*(V+1) →
 lin4 p q r s c c0 c1 c2 c3→∀ u v,evT Ud Vd (D c) u v=p*evT Ud Vd (D c0) u v+q*evT Ud Vd (D c1) u v+r*evT Ud Vd (D c2) u v+s*evT Ud Vd (D c3) u v
theorem dLin_U (U V:Nat):dLin U V (U-1) V (dfU U V):=fun p q r s c c0 c1 c2 c3 _ _ _ _ _ h u v=>by
 rw [evT_F,evT_F,evT_F,evT_F,evT_F,←evF_lin4]
 refine evF_congr u v fun i j hi hj=>?_
 rw [dfU_get hi hj,dfU_get hi hj,dfU_get hi hj,dfU_get hi hj,dfU_get hi hj,h,h]
 grind
theorem dLin_V (U V:Nat):dLin U V U (V-1) (dfV U V):=fun p q r s c c0 c1 c2 c3 g g0 g1 g2 g3 h u v=>by
 rw [evT_F,evT_F,evT_F,evT_F,evT_F,←evF_lin4]
 refine evF_congr u v fun i j hi hj=>?_
 rw [dfV_get g hi hj,dfV_get g0 hi hj,dfV_get g1 hi hj,dfV_get g2 hi hj,dfV_get g3 hi hj,h,h]
 grind
theorem sg_ev {U V Ud Vd:Nat} {D:List Rat→List Rat} (hd:dfS U V Ud Vd D) {F:List PoR} (hF:F.length=(U+1)*(V+1)) (k:Nat) (x y:Rat) :
  evT (Ud+U) (Vd+V) (sgN U V Ud Vd D F k) x y=evT Ud Vd (D (nmP F k)) x y*evT U V (wtP F) x y-evT U V (nmP F k) x y*evT Ud Vd (D (wtP F)) x y:=by
 have hn:(nmP F k).length=(U+1)*(V+1):=by rw [nmP_len,hF]
 have hw:(wtP F).length=(U+1)*(V+1):=by rw [wtP_len,hF]
 have h1:=evT_tm (hd.l _ hn) hw x y
 have h2:=evT_tm hn (hd.l _ hw) x y
 rw [Nat.add_comm U Ud,Nat.add_comm V Vd] at h2
 rw [sgN,evT_sub (tm_len _ _ _ _ _ _),h1,h2]
theorem mv_wt (m:M3) (F:List PoR):wtP (F.map (mvP m))=wtP F:=by
 unfold wtP
 rw [List.map_map];rfl
theorem mv_nm (m:M3) (F:List PoR) (k:Nat) (hk:k<3):∃ n:V3,∃ t:Rat,lin4 n.x n.y n.z t (nmP (F.map (mvP m)) k) (nmP F 0) (nmP F 1) (nmP F 2) (wtP F)∧(∀ p:V3,(m3t m p).at k=v3d n p):=by
 have key:∀ n:V3,∀ t:Rat,(∀ q:PoR,(mvP m q).p.at k=v3d n q.p+t)→lin4 n.x n.y n.z t (nmP (F.map (mvP m)) k) (nmP F 0) (nmP F 1) (nmP F 2) (wtP F):=fun n t hq i=>by
  by_cases hi:i<F.length
  ·rw [nm_get (by rw [List.length_map];exact hi),nm_get hi,nm_get hi,nm_get hi,wt_get hi]
   have e:(F.map (mvP m)).getD i default=mvP m (F.getD i default):=by
    rw [List.getD_eq_getElem?_getD,List.getElem?_map,List.getD_eq_getElem?_getD,List.getElem?_eq_getElem hi];rfl
   rw [e,hq]
   show (F.getD i default).w*(v3d n (F.getD i default).p+t)=n.x*((F.getD i default).w*(F.getD i default).p.x)+n.y*((F.getD i default).w*(F.getD i default).p.y)+n.z*((F.getD i default).w*(F.getD i default).p.z)+t*(F.getD i default).w
   unfold v3d
   grind
  ·have z:∀ l:List Rat,l.length=F.length→l.getD i 0=0:=fun l hl=>by
    rw [List.getD_eq_getElem?_getD,List.getElem?_eq_none (by omega)];rfl
   rw [z _ (by rw [nmP_len,List.length_map]),z _ (nmP_len ..),z _ (nmP_len ..),z _ (nmP_len ..),z _ (wtP_len ..)]
   grind
 rcases k with _ | _ | _ | k
 ·exact⟨m.a,m.t.x,key m.a m.t.x fun q=>rfl,fun p=>rfl⟩
 ·exact⟨m.b,m.t.y,key m.b m.t.y fun q=>rfl,fun p=>rfl⟩
 ·exact⟨m.c,m.t.z,key m.c m.t.z fun q=>rfl,fun p=>rfl⟩
 ·omega
theorem V3.ext3 {p q:V3} (h0:p.at 0=q.at 0) (h1:p.at 1=q.at 1) (h2:p.at 2=q.at 2):p=q:=by
 obtain⟨a,b,c⟩:=p
 obtain⟨d,e,f⟩:=q
 have h0:a=d:=h0
 have h1:b=e:=h1
 have h2:c=f:=h2
 rw [h0,h1,h2]
theorem pdv_at (U V Ud Vd:Nat) (D:List Rat→List Rat) (F:List PoR) (wd x y:Rat) (k:Nat) (hk:k<3):(pdv U V Ud Vd D F wd x y).at k=1/(wd*(evT U V (wtP F) x y*evT U V (wtP F) x y))*evT (Ud+U) (Vd+V) (sgN U V Ud Vd D F k) x y:=by
 rcases k with _ | _ | _ | k
 ·rfl
 ·rfl
 ·rfl
 ·omega
theorem pdv_mv {U V Ud Vd:Nat} {D:List Rat→List Rat} (hd:dfS U V Ud Vd D) (hl:dLin U V Ud Vd D) {F:List PoR} (hF:F.length=(U+1)*(V+1)) (m:M3) (wd x y:Rat) :
  pdv U V Ud Vd D (F.map (mvP m)) wd x y=m3t m (pdv U V Ud Vd D F wd x y):=by
 have hF':(F.map (mvP m)).length=(U+1)*(V+1):=by rw [List.length_map,hF]
 have main:∀ k,k<3→(pdv U V Ud Vd D (F.map (mvP m)) wd x y).at k=(m3t m (pdv U V Ud Vd D F wd x y)).at k:=fun k hk=>by
  obtain⟨n,t,h1,h2⟩:=mv_nm m F k hk
  rw [h2,pdv_at _ _ _ _ _ _ _ _ _ k hk,sg_ev hd hF',mv_wt,evT_lin4 h1,hl _ _ _ _ _ _ _ _ _ (by rw [nmP_len,hF']) (by rw [nmP_len,hF]) (by rw [nmP_len,hF]) (by rw [nmP_len,hF]) (by rw [wtP_len,hF]) h1]
  have e0:=pdv_at U V Ud Vd D F wd x y 0 (by decide)
  have e1:=pdv_at U V Ud Vd D F wd x y 1 (by decide)
  have e2:=pdv_at U V Ud Vd D F wd x y 2 (by decide)
  rw [sg_ev hd hF] at e0 e1 e2
  have e0:(pdv U V Ud Vd D F wd x y).x=_:=e0
  have e1:(pdv U V Ud Vd D F wd x y).y=_:=e1
  have e2:(pdv U V Ud Vd D F wd x y).z=_:=e2
  unfold v3d
  rw [e0,e1,e2]
  grind
 exact V3.ext3 (main 0 (by decide)) (main 1 (by decide)) (main 2 (by decide))
theorem evF_swap {U V:Nat} (f:Nat→Nat→Rat) (u v:Rat):evF V U (fun j i=>f i j) v u=evF U V f u v:=by
 unfold evF
 rw [fE_swap]
theorem evT_sw {U V:Nat} (c:List Rat) (x y:Rat):evT V U (swL U V c) y x=evT U V c x y:=by
 rw [evT_F,evT_F,←evF_swap]
 exact evF_congr x y fun i j hi hj=>sw_get hi hj
theorem evT_swU {U V:Nat} {c:List Rat} (hc:c.length=(U+1)*(V+1)) (x y:Rat):evT (V-1) U (dfU V U (swL U V c)) y x=evT U (V-1) (dfV U V c) x y:=by
 rw [evT_F,evT_F,←evF_swap]
 refine evF_congr x y fun i j hi hj=>?_
 rw [dfU_get hj hi,dfV_get hc hi hj]
 rcases Nat.eq_zero_or_pos V with rfl | hV
 ·rw [show (((0:Nat):Int):Rat)=0 from rfl,Rat.zero_mul,Rat.zero_mul]
 ·rw [sw_get hi (by omega),sw_get hi (by omega)]
theorem evT_swV {U V:Nat} (c:List Rat) (x y:Rat):evT V (U-1) (dfV V U (swL U V c)) y x=evT (U-1) V (dfU U V c) x y:=by
 rw [evT_F,evT_F,←evF_swap]
 refine evF_congr x y fun i j hi hj=>?_
 rw [dfU_get hi hj,dfV_get (swL_len U V c) hj hi]
 rcases Nat.eq_zero_or_pos U with rfl | hU
 ·rw [show (((0:Nat):Int):Rat)=0 from rfl,Rat.zero_mul,Rat.zero_mul]
 ·rw [sw_get (by omega) hj,sw_get (by omega) hj]
section
variable {R U V:Nat} {rows:List (List PoR)} (h:pf R U V rows)
include h
theorem sw_nm (k:Nat):nmP (swR V rows).flatten k=swL U V (nmP rows.flatten k):=by
 have h':=swR_pf h
 refine net_ext (U:=V) (V:=U) (h'.nl k) (swL_len U V _) fun j i hj hi=>?_
 rw [nm_get (by rw [h'.len];exact ix_lt hj hi),sw_get hi hj,nm_get (by rw [h.len];exact ix_lt hi hj),flat_get h'.m j i (by rw [h'.n];omega) (by omega),pcol_get h hi hj]
theorem sw_wt:wtP (swR V rows).flatten=swL U V (wtP rows.flatten):=by
 have h':=swR_pf h
 refine net_ext (U:=V) (V:=U) h'.wl (swL_len U V _) fun j i hj hi=>?_
 rw [wt_get (by rw [h'.len];exact ix_lt hj hi),sw_get hi hj,wt_get (by rw [h.len];exact ix_lt hi hj),flat_get h'.m j i (by rw [h'.n];omega) (by omega),pcol_get h hi hj]
theorem pdv_swU (wd x y:Rat):pdv V U (V-1) U (dfU V U) (swR V rows).flatten wd y x=pdv U V U (V-1) (dfV U V) rows.flatten wd x y:=by
 have h':=swR_pf h
 have main:∀ k,k<3→(pdv V U (V-1) U (dfU V U) (swR V rows).flatten wd y x).at k=(pdv U V U (V-1) (dfV U V) rows.flatten wd x y).at k:=fun k hk=>by
  rw [pdv_at _ _ _ _ _ _ _ _ _ k hk,pdv_at _ _ _ _ _ _ _ _ _ k hk,sg_ev (dfS_U h.v3 h.u3) h'.len,sg_ev (dfS_V h.u3 h.v3) h.len,sw_nm h,sw_wt h,evT_sw,evT_sw,evT_swU (h.nl k),evT_swU h.wl]
 exact V3.ext3 (main 0 (by decide)) (main 1 (by decide)) (main 2 (by decide))
theorem pdv_swV (wd x y:Rat):pdv V U V (U-1) (dfV V U) (swR V rows).flatten wd y x=pdv U V (U-1) V (dfU U V) rows.flatten wd x y:=by
 have h':=swR_pf h
 have main:∀ k,k<3→(pdv V U V (U-1) (dfV V U) (swR V rows).flatten wd y x).at k=(pdv U V (U-1) V (dfU U V) rows.flatten wd x y).at k:=fun k hk=>by
  rw [pdv_at _ _ _ _ _ _ _ _ _ k hk,pdv_at _ _ _ _ _ _ _ _ _ k hk,sg_ev (dfS_V h.v3 h.u3) h'.len,sg_ev (dfS_U h.u3 h.v3) h.len,sw_nm h,sw_wt h,evT_sw,evT_sw,evT_swV,evT_swV]
 exact V3.ext3 (main 0 (by decide)) (main 1 (by decide)) (main 2 (by decide))
end
theorem x_anti (a b:V3):v3a (v3x a b) (v3x b a)=⟨0,0,0⟩:=by
 unfold v3a v3x
 simp only [V3.mk.injEq]
 refine⟨?_,?_,?_⟩<;>grind
theorem mv_pf {U V:Nat} {rows:List (List PoR)} (h:pf 4 U V rows) {m:M3} (hm:bdM 1 m):pf 25 U V (rows.map fun r=>r.map (mvP m)) where
 r1:=by decide
 rB:=by decide
 u1:=h.u1
 u3:=h.u3
 v1:=h.v1
 v3:=h.v3
 n:=by rw [List.length_map,h.n]
 m:=fun r hr=>by
  obtain⟨r',hr',rfl⟩:=List.mem_map.1 hr
  rw [List.length_map,h.m r' hr']
 ok:=fun r hr q hq=>by
  obtain⟨r',hr',rfl⟩:=List.mem_map.1 hr
  obtain⟨q',hq',rfl⟩:=List.mem_map.1 hq
  obtain⟨h1,h2,h3⟩:=h.ok r' hr' q' hq'
  exact⟨(m3p_bd hm h1).le (by decide),Nat.le_trans h2 (by decide),h3⟩
theorem mv_flat (m:M3) (rows:List (List PoR)):(rows.map fun r=>r.map (mvP m)).flatten=rows.flatten.map (mvP m):=by
 induction rows with
 | nil=>rfl
 | cons r rs ih=>rw [List.map_cons,List.flatten_cons,List.flatten_cons,List.map_append,ih]
def crL (d:Nat) (k:List Rat) (po:List PoR):LV:=.agg [nI64 d,.list 3 (k.map ratL),.list 12 (po.map poL)]
theorem crE (d:Nat) (k:List Rat):EncOK (crL d k) 3 true:=⟨fun _=>rfl,fun _=>rfl,fun po=>by simp [crL,LV.pure,pures,pures_map ratE,pures_map poE]⟩
theorem crAt {d:Nat} {k:List Rat} {cs:List (List PoR)} {i:Nat} (h:i<cs.length):(cs.map (crL d k))[((i:Nat):Int).toNat]?=some (crL d k (cs.getD i [])):=by
 rw [Int.toNat_natCast,List.getElem?_map,List.getD_eq_getElem?_getD,List.getElem?_eq_getElem h];rfl
theorem crL_kill (d:Nat) (k:List Rat) (po:List PoR) (b:Nat):(crL d k po).kill b=crL d k po:=LV.kill_pure b _ ((crE d k).pure po)
theorem kl0 {α:Type} {e:α→LV} {sz:Nat} {ag:Bool} (he:EncOK e sz ag) (b s:Nat) (l:List α):(some (Blk.mk s (kills b (([]:List LV).take 0++l.map e)) true):Option Blk)=some ⟨s,l.map e,true⟩:=by
 rw [List.take_nil,List.nil_append,kills_map he]
theorem crLit {P:Program} {ρ:Operand→LV} {T E:TypeId} {x:Operand} {d n:Nat} {k:List Rat} {po:List PoR} {z:LV} (hT:P.underlying T=some (.slice E)) (hz:ZeroOK P E z) (hzc:z.csize=3) (hza:z.isAgg=true) (hE:TyIs P E 3 true)
  (hx:ρ x=crL n k po):OpA P ρ d (.buildSlice T 1 #[(0,x)]) (.ref d 3 0 1) ⟨3,[po].map (crL n k),true⟩:=by
 have:=OpA.lit (P:=P) (ρ:=ρ) (d:=d) (T:=T) (n:=1) (ps:=#[(0,x)]) hT hz (by rw [hza];exact hE) hzc (by omega) (by omega) (by omega) (by
  intro p hp
  simp only [List.mem_singleton] at hp
  subst hp
  refine⟨by simp,?_,by rw [hx];exact LV.pure_ne_any ((crE n k).pure _),by rw [hx];exact LV.pure_ne_tup ((crE n k).pure _)⟩
  simp [lay,hx,(crE n k).csize,(crE n k).isAgg,hzc,hza])
 simpa [buildL,hx,List.replicate] using this
namespace H_c_WithRows
theorem zSm {p q:Prop} (k:q) (e:p=q:=by simp only [e1,e2,e3,e4,p1,p2,p3,q1,q2,q3,l1,t0,t1,r1,r2,r3,r4,Nat.zero_add,Nat.reduceMul,Nat.reduceAdd,b1,b2,b3,b4,b5,b6,i1,i2,i3,i4,i5,i6,Nat.reduceBEq,prL,etk,eto,esw,kills_map ratE,kills_map prE,kills_map poE,List.length_map,List.take_nil,List.nil_append,prL_kill,kills_map prE,dfr,dfq,take_map_len,map_snoc,len_snoc,List.length_cons,List.length_nil,List.nil_append,List.map_nil,List.take_nil,List.append_nil,List.set_cons_zero,List.set_cons_succ,Nat.reduceEqDiff,reduceIte,if_true,if_false,ptL_kill,poL_kill,kills_map ptE,kills_map poE,kills_map ratE,ratL_kill,spL_kill,LV.kill,kills];exact rfl):p:=e.mpr k
end H_c_WithRows
open H_c_WithRows in
theorem c_WithRows (U V:Nat) (kU kV:List Rat) (rows css:List (List PoR)) (hc0:0<css.length) (hc:css.length≤100) (hcl:∀ r∈css,r.length≤100) (hku:kU.length≤100) (hkv:kV.length≤100):CallP Tryz.prog 76 [.agg [nI64 U,nI64 V,.list 3 (kU.map ratL),.list 3 (kV.map ratL),.list 1 (rows.map prL)],.list 3 (css.map (crL V kV))] (.agg [nI64 U,nI64 V,.list 3 (kU.map ratL),.list 3 (kV.map ratL),.list 1 (css.map prL)]):=by
 have hsp:LV.pure (.agg [nI64 U,nI64 V,.list 3 (kU.map ratL),.list 3 (kV.map ratL),.list 1 (rows.map prL)])=true:=by simp [LV.pure,pures,pures_map ratE,pures_map prE]
 have hpv:=pures_map ratE kV
 have hpu:=pures_map ratE kU
 have hpr:=pures_map prE rows
 refine fnP Tryz.func76 (ht:=(fun g=>LV.ren_pure g _ (by simp [LV.pure,pures,pures_map ratE,pures_map prE]))) ?_
 have etk:True:=trivial
 have eto:True:=trivial
 have esw:True:=trivial
 refine zg7 ?_
 refine wl_cut (fun L=>∃  (L1:St),(True)∧L=(((((St.mk L1.slot (hp [(4,⟨5,[.agg [.v (.int .i64 0),.v (.int .i64 0),.v (.slice none 0 0),.v (.slice none 0 0),.v (.slice none 0 0)]],true⟩),(5,⟨5,[.agg [nI64 U,nI64 V,.ref 13 3 0 kU.length,.ref 17 3 0 kV.length,.v (.slice none 0 0)]],true⟩),(13,⟨3,kU.map ratL,true⟩),(17,⟨3,kV.map ratL,true⟩)])).put (some 1) (.list 3 (css.map (crL V kV)))).put (some 2) (.boxp (.agg [nI64 U,nI64 V,.list 3 (kU.map ratL),.list 3 (kV.map ratL),.list 1 (rows.map prL)]))).put (some 4) (.eptr 4 5 0 0)).put (some 5) (.eptr 5 5 0 0))) ?_ ?_
 ·refine wl_regAW (Weak.boxp (t:=2) (b:=2) rfl rfl cs rfl hsp) ?_
  refine any_hoistW 0 rfl rfl (by decide +kernel) faA fmV fmA ?_
  refine any_hoistW 1 rfl rfl (by decide +kernel) ldA fmV fmA ?_
  refine any_hoistW 2 rfl rfl (by decide +kernel) (.move _) fmV fmA ?_
  refine any_hoistW 3 rfl rfl (by decide +kernel) (.idxL rfl Tryz.underlying111 T113 rfl (by omega) (crAt (i:=0) hc0) rfl) fmV fmA ?_
  refine any_hoistW 4 rfl rfl (by decide +kernel) faA fmV fmA ?_
  refine any_hoistW 5 rfl rfl (by decide +kernel) ldA fmV fmA ?_
  refine any_hoistW 7 rfl rfl (by decide +kernel) faA fmV fmA ?_
  refine any_hoistW 8 rfl rfl (by decide +kernel) (.ldbx rfl hpu rfl rfl) fmV fmA ?_
  refine any_hoistW 11 rfl rfl (by decide +kernel) (.move _) fmV fmA ?_
  refine any_hoistW 12 rfl rfl (by decide +kernel) (.idxL rfl Tryz.underlying111 T113 rfl (by omega) (crAt (i:=0) hc0) rfl) fmV fmA ?_
  refine any_hoistW 13 rfl rfl (by decide +kernel) faA fmV fmA ?_
  refine any_hoistW 14 rfl rfl (by decide +kernel) (.ldbx rfl hpv rfl rfl) fmV fmA ?_
  refine any_3 6 10 17 _ _ _ (by decide +kernel) rfl rfl rfl ?_ ?_ ?_
  ·refine zg1 ?_
   refine st_nil ?_
   refine any_3 9 10 17 _ _ _ (by decide +kernel) rfl rfl rfl ?_ ?_ ?_
   ·refine st_store rfl (.appX (d:=13) (news:=kU.map ratL) rfl rfl rfl rfl (by simp) (.inl rfl) (by decide) Tryz.underlying36 Tryz.underlying36 Z29a T29 rfl B29 (.inr (.inl rfl)) (by simp;omega) (by simp;omega) (by decide)) ?_
    refine st_nil ?_
    refine any_2 10 17 _ _ (by decide +kernel) rfl rfl ?_ ?_
    ·refine zg1 ?_
     refine st_nil ?_
     refine any_2 15 17 _ _ (by decide +kernel) rfl rfl ?_ ?_
     ·refine st_store rfl (.appX (d:=17) (news:=kV.map ratL) rfl rfl rfl rfl (by simp) (.inl rfl) (by decide) Tryz.underlying36 Tryz.underlying36 Z29a T29 rfl B29 (.inr (.inl rfl)) (by simp;omega) (by simp;omega) (by decide)) ?_
      refine st_nil ?_
      refine any_2 16 17 _ _ (by decide +kernel) rfl rfl ?_ ?_
      ·refine zg1 ?_
       refine st_nil ?_
       refine any_1 17 _ (by decide +kernel) rfl ?_
       refine zg1 ?_
       refine st_nil ?_
       refine any_1 18 _ (by decide +kernel) rfl ?_
       refine zg1 ?_
       refine st_nil ?_
       refine any_0 (by decide +kernel) ?_
       refine zg1 ?_
       exact⟨_,trivial,((put_id' (put_id' (put_id' (put_id' (mk_id' (by first | exact cl | (refine zSm ?_;refine hp_ext ?_ ?_<;>repeat (first | exact trivial | refine And.intro rfl ?_)))) cl) cl) cl) cl)).symm⟩
      ·refine zg1 ?_
       refine st_nil ?_
       refine any_1 16 _ (by decide +kernel) rfl ?_
       refine zg1 ?_
       refine st_nil ?_
       refine any_1 18 _ (by decide +kernel) rfl ?_
       refine zg1 ?_
       refine st_nil ?_
       refine any_0 (by decide +kernel) ?_
       refine zg1 ?_
       exact⟨_,trivial,((put_id' (put_id' (put_id' (put_id' (mk_id' (by first | exact cl | (refine zSm ?_;refine hp_ext ?_ ?_<;>repeat (first | exact trivial | refine And.intro rfl ?_)))) cl) cl) cl) cl)).symm⟩
     ·refine zg1 ?_
      refine st_nil ?_
      refine any_1 15 _ (by decide +kernel) rfl ?_
      refine st_store rfl (.appX (d:=17) (news:=kV.map ratL) rfl rfl rfl rfl (by simp) (.inl rfl) (by decide) Tryz.underlying36 Tryz.underlying36 Z29a T29 rfl B29 (.inr (.inl rfl)) (by simp;omega) (by simp;omega) (by decide)) ?_
      refine st_nil ?_
      refine any_1 16 _ (by decide +kernel) rfl ?_
      refine zg1 ?_
      refine st_nil ?_
      refine any_1 18 _ (by decide +kernel) rfl ?_
      refine zg1 ?_
      refine st_nil ?_
      refine any_0 (by decide +kernel) ?_
      refine zg1 ?_
      exact⟨_,trivial,((put_id' (put_id' (put_id' (put_id' (mk_id' (by first | exact cl | (refine zSm ?_;refine hp_ext ?_ ?_<;>repeat (first | exact trivial | refine And.intro rfl ?_)))) cl) cl) cl) cl)).symm⟩
    ·refine zg1 ?_
     refine st_nil ?_
     refine any_1 10 _ (by decide +kernel) rfl ?_
     refine zg1 ?_
     refine st_nil ?_
     refine any_1 15 _ (by decide +kernel) rfl ?_
     refine st_store rfl (.appX (d:=17) (news:=kV.map ratL) rfl rfl rfl rfl (by simp) (.inl rfl) (by decide) Tryz.underlying36 Tryz.underlying36 Z29a T29 rfl B29 (.inr (.inl rfl)) (by simp;omega) (by simp;omega) (by decide)) ?_
     refine st_nil ?_
     refine any_1 16 _ (by decide +kernel) rfl ?_
     refine zg1 ?_
     refine st_nil ?_
     refine any_1 18 _ (by decide +kernel) rfl ?_
     refine zg1 ?_
     refine st_nil ?_
     refine any_0 (by decide +kernel) ?_
     refine zg1 ?_
     exact⟨_,trivial,((put_id' (put_id' (put_id' (put_id' (mk_id' (by first | exact cl | (refine zSm ?_;refine hp_ext ?_ ?_<;>repeat (first | exact trivial | refine And.intro rfl ?_)))) cl) cl) cl) cl)).symm⟩
   ·refine zg1 ?_
    refine st_nil ?_
    refine any_2 9 17 _ _ (by decide +kernel) rfl rfl ?_ ?_
    ·refine st_store rfl (.appX (d:=13) (news:=kU.map ratL) rfl rfl rfl rfl (by simp) (.inl rfl) (by decide) Tryz.underlying36 Tryz.underlying36 Z29a T29 rfl B29 (.inr (.inl rfl)) (by simp;omega) (by simp;omega) (by decide)) ?_
     refine st_nil ?_
     refine any_2 15 17 _ _ (by decide +kernel) rfl rfl ?_ ?_
     ·refine st_store rfl (.appX (d:=17) (news:=kV.map ratL) rfl rfl rfl rfl (by simp) (.inl rfl) (by decide) Tryz.underlying36 Tryz.underlying36 Z29a T29 rfl B29 (.inr (.inl rfl)) (by simp;omega) (by simp;omega) (by decide)) ?_
      refine st_nil ?_
      refine any_2 16 17 _ _ (by decide +kernel) rfl rfl ?_ ?_
      ·refine zg1 ?_
       refine st_nil ?_
       refine any_1 17 _ (by decide +kernel) rfl ?_
       refine zg1 ?_
       refine st_nil ?_
       refine any_1 18 _ (by decide +kernel) rfl ?_
       refine zg1 ?_
       refine st_nil ?_
       refine any_0 (by decide +kernel) ?_
       refine zg1 ?_
       exact⟨_,trivial,((put_id' (put_id' (put_id' (put_id' (mk_id' (by first | exact cl | (refine zSm ?_;refine hp_ext ?_ ?_<;>repeat (first | exact trivial | refine And.intro rfl ?_)))) cl) cl) cl) cl)).symm⟩
      ·refine zg1 ?_
       refine st_nil ?_
       refine any_1 16 _ (by decide +kernel) rfl ?_
       refine zg1 ?_
       refine st_nil ?_
       refine any_1 18 _ (by decide +kernel) rfl ?_
       refine zg1 ?_
       refine st_nil ?_
       refine any_0 (by decide +kernel) ?_
       refine zg1 ?_
       exact⟨_,trivial,((put_id' (put_id' (put_id' (put_id' (mk_id' (by first | exact cl | (refine zSm ?_;refine hp_ext ?_ ?_<;>repeat (first | exact trivial | refine And.intro rfl ?_)))) cl) cl) cl) cl)).symm⟩
     ·refine zg1 ?_
      refine st_nil ?_
      refine any_1 15 _ (by decide +kernel) rfl ?_
      refine st_store rfl (.appX (d:=17) (news:=kV.map ratL) rfl rfl rfl rfl (by simp) (.inl rfl) (by decide) Tryz.underlying36 Tryz.underlying36 Z29a T29 rfl B29 (.inr (.inl rfl)) (by simp;omega) (by simp;omega) (by decide)) ?_
      refine st_nil ?_
      refine any_1 16 _ (by decide +kernel) rfl ?_
      refine zg1 ?_
      refine st_nil ?_
      refine any_1 18 _ (by decide +kernel) rfl ?_
      refine zg1 ?_
      refine st_nil ?_
      refine any_0 (by decide +kernel) ?_
      refine zg1 ?_
      exact⟨_,trivial,((put_id' (put_id' (put_id' (put_id' (mk_id' (by first | exact cl | (refine zSm ?_;refine hp_ext ?_ ?_<;>repeat (first | exact trivial | refine And.intro rfl ?_)))) cl) cl) cl) cl)).symm⟩
    ·refine zg1 ?_
     refine st_nil ?_
     refine any_1 9 _ (by decide +kernel) rfl ?_
     refine st_store rfl (.appX (d:=13) (news:=kU.map ratL) rfl rfl rfl rfl (by simp) (.inl rfl) (by decide) Tryz.underlying36 Tryz.underlying36 Z29a T29 rfl B29 (.inr (.inl rfl)) (by simp;omega) (by simp;omega) (by decide)) ?_
     refine st_nil ?_
     refine any_1 15 _ (by decide +kernel) rfl ?_
     refine st_store rfl (.appX (d:=17) (news:=kV.map ratL) rfl rfl rfl rfl (by simp) (.inl rfl) (by decide) Tryz.underlying36 Tryz.underlying36 Z29a T29 rfl B29 (.inr (.inl rfl)) (by simp;omega) (by simp;omega) (by decide)) ?_
     refine st_nil ?_
     refine any_1 16 _ (by decide +kernel) rfl ?_
     refine zg1 ?_
     refine st_nil ?_
     refine any_1 18 _ (by decide +kernel) rfl ?_
     refine zg1 ?_
     refine st_nil ?_
     refine any_0 (by decide +kernel) ?_
     refine zg1 ?_
     exact⟨_,trivial,((put_id' (put_id' (put_id' (put_id' (mk_id' (by first | exact cl | (refine zSm ?_;refine hp_ext ?_ ?_<;>repeat (first | exact trivial | refine And.intro rfl ?_)))) cl) cl) cl) cl)).symm⟩
   ·refine zg1 ?_
    refine st_nil ?_
    refine any_2 9 10 _ _ (by decide +kernel) rfl rfl ?_ ?_
    ·refine st_store rfl (.appX (d:=13) (news:=kU.map ratL) rfl rfl rfl rfl (by simp) (.inl rfl) (by decide) Tryz.underlying36 Tryz.underlying36 Z29a T29 rfl B29 (.inr (.inl rfl)) (by simp;omega) (by simp;omega) (by decide)) ?_
     refine st_nil ?_
     refine any_1 10 _ (by decide +kernel) rfl ?_
     refine zg1 ?_
     refine st_nil ?_
     refine any_1 15 _ (by decide +kernel) rfl ?_
     refine st_store rfl (.appX (d:=17) (news:=kV.map ratL) rfl rfl rfl rfl (by simp) (.inl rfl) (by decide) Tryz.underlying36 Tryz.underlying36 Z29a T29 rfl B29 (.inr (.inl rfl)) (by simp;omega) (by simp;omega) (by decide)) ?_
     refine st_nil ?_
     refine any_1 16 _ (by decide +kernel) rfl ?_
     refine zg1 ?_
     refine st_nil ?_
     refine any_1 18 _ (by decide +kernel) rfl ?_
     refine zg1 ?_
     refine st_nil ?_
     refine any_0 (by decide +kernel) ?_
     refine zg1 ?_
     exact⟨_,trivial,((put_id' (put_id' (put_id' (put_id' (mk_id' (by first | exact cl | (refine zSm ?_;refine hp_ext ?_ ?_<;>repeat (first | exact trivial | refine And.intro rfl ?_)))) cl) cl) cl) cl)).symm⟩
    ·refine zg1 ?_
     refine st_nil ?_
     refine any_1 9 _ (by decide +kernel) rfl ?_
     refine st_store rfl (.appX (d:=13) (news:=kU.map ratL) rfl rfl rfl rfl (by simp) (.inl rfl) (by decide) Tryz.underlying36 Tryz.underlying36 Z29a T29 rfl B29 (.inr (.inl rfl)) (by simp;omega) (by simp;omega) (by decide)) ?_
     refine st_nil ?_
     refine any_1 15 _ (by decide +kernel) rfl ?_
     refine st_store rfl (.appX (d:=17) (news:=kV.map ratL) rfl rfl rfl rfl (by simp) (.inl rfl) (by decide) Tryz.underlying36 Tryz.underlying36 Z29a T29 rfl B29 (.inr (.inl rfl)) (by simp;omega) (by simp;omega) (by decide)) ?_
     refine st_nil ?_
     refine any_1 16 _ (by decide +kernel) rfl ?_
     refine zg1 ?_
     refine st_nil ?_
     refine any_1 18 _ (by decide +kernel) rfl ?_
     refine zg1 ?_
     refine st_nil ?_
     refine any_0 (by decide +kernel) ?_
     refine zg1 ?_
     exact⟨_,trivial,((put_id' (put_id' (put_id' (put_id' (mk_id' (by first | exact cl | (refine zSm ?_;refine hp_ext ?_ ?_<;>repeat (first | exact trivial | refine And.intro rfl ?_)))) cl) cl) cl) cl)).symm⟩
  ·refine zg1 ?_
   refine st_nil ?_
   refine any_2 6 17 _ _ (by decide +kernel) rfl rfl ?_ ?_
   ·refine zg1 ?_
    refine st_nil ?_
    refine any_2 9 17 _ _ (by decide +kernel) rfl rfl ?_ ?_
    ·refine st_store rfl (.appX (d:=13) (news:=kU.map ratL) rfl rfl rfl rfl (by simp) (.inl rfl) (by decide) Tryz.underlying36 Tryz.underlying36 Z29a T29 rfl B29 (.inr (.inl rfl)) (by simp;omega) (by simp;omega) (by decide)) ?_
     refine st_nil ?_
     refine any_2 15 17 _ _ (by decide +kernel) rfl rfl ?_ ?_
     ·refine st_store rfl (.appX (d:=17) (news:=kV.map ratL) rfl rfl rfl rfl (by simp) (.inl rfl) (by decide) Tryz.underlying36 Tryz.underlying36 Z29a T29 rfl B29 (.inr (.inl rfl)) (by simp;omega) (by simp;omega) (by decide)) ?_
      refine st_nil ?_
      refine any_2 16 17 _ _ (by decide +kernel) rfl rfl ?_ ?_
      ·refine zg1 ?_
       refine st_nil ?_
       refine any_1 17 _ (by decide +kernel) rfl ?_
       refine zg1 ?_
       refine st_nil ?_
       refine any_1 18 _ (by decide +kernel) rfl ?_
       refine zg1 ?_
       refine st_nil ?_
       refine any_0 (by decide +kernel) ?_
       refine zg1 ?_
       exact⟨_,trivial,((put_id' (put_id' (put_id' (put_id' (mk_id' (by first | exact cl | (refine zSm ?_;refine hp_ext ?_ ?_<;>repeat (first | exact trivial | refine And.intro rfl ?_)))) cl) cl) cl) cl)).symm⟩
      ·refine zg1 ?_
       refine st_nil ?_
       refine any_1 16 _ (by decide +kernel) rfl ?_
       refine zg1 ?_
       refine st_nil ?_
       refine any_1 18 _ (by decide +kernel) rfl ?_
       refine zg1 ?_
       refine st_nil ?_
       refine any_0 (by decide +kernel) ?_
       refine zg1 ?_
       exact⟨_,trivial,((put_id' (put_id' (put_id' (put_id' (mk_id' (by first | exact cl | (refine zSm ?_;refine hp_ext ?_ ?_<;>repeat (first | exact trivial | refine And.intro rfl ?_)))) cl) cl) cl) cl)).symm⟩
     ·refine zg1 ?_
      refine st_nil ?_
      refine any_1 15 _ (by decide +kernel) rfl ?_
      refine st_store rfl (.appX (d:=17) (news:=kV.map ratL) rfl rfl rfl rfl (by simp) (.inl rfl) (by decide) Tryz.underlying36 Tryz.underlying36 Z29a T29 rfl B29 (.inr (.inl rfl)) (by simp;omega) (by simp;omega) (by decide)) ?_
      refine st_nil ?_
      refine any_1 16 _ (by decide +kernel) rfl ?_
      refine zg1 ?_
      refine st_nil ?_
      refine any_1 18 _ (by decide +kernel) rfl ?_
      refine zg1 ?_
      refine st_nil ?_
      refine any_0 (by decide +kernel) ?_
      refine zg1 ?_
      exact⟨_,trivial,((put_id' (put_id' (put_id' (put_id' (mk_id' (by first | exact cl | (refine zSm ?_;refine hp_ext ?_ ?_<;>repeat (first | exact trivial | refine And.intro rfl ?_)))) cl) cl) cl) cl)).symm⟩
    ·refine zg1 ?_
     refine st_nil ?_
     refine any_1 9 _ (by decide +kernel) rfl ?_
     refine st_store rfl (.appX (d:=13) (news:=kU.map ratL) rfl rfl rfl rfl (by simp) (.inl rfl) (by decide) Tryz.underlying36 Tryz.underlying36 Z29a T29 rfl B29 (.inr (.inl rfl)) (by simp;omega) (by simp;omega) (by decide)) ?_
     refine st_nil ?_
     refine any_1 15 _ (by decide +kernel) rfl ?_
     refine st_store rfl (.appX (d:=17) (news:=kV.map ratL) rfl rfl rfl rfl (by simp) (.inl rfl) (by decide) Tryz.underlying36 Tryz.underlying36 Z29a T29 rfl B29 (.inr (.inl rfl)) (by simp;omega) (by simp;omega) (by decide)) ?_
     refine st_nil ?_
     refine any_1 16 _ (by decide +kernel) rfl ?_
     refine zg1 ?_
     refine st_nil ?_
     refine any_1 18 _ (by decide +kernel) rfl ?_
     refine zg1 ?_
     refine st_nil ?_
     refine any_0 (by decide +kernel) ?_
     refine zg1 ?_
     exact⟨_,trivial,((put_id' (put_id' (put_id' (put_id' (mk_id' (by first | exact cl | (refine zSm ?_;refine hp_ext ?_ ?_<;>repeat (first | exact trivial | refine And.intro rfl ?_)))) cl) cl) cl) cl)).symm⟩
   ·refine zg1 ?_
    refine st_nil ?_
    refine any_1 6 _ (by decide +kernel) rfl ?_
    refine zg1 ?_
    refine st_nil ?_
    refine any_1 9 _ (by decide +kernel) rfl ?_
    refine st_store rfl (.appX (d:=13) (news:=kU.map ratL) rfl rfl rfl rfl (by simp) (.inl rfl) (by decide) Tryz.underlying36 Tryz.underlying36 Z29a T29 rfl B29 (.inr (.inl rfl)) (by simp;omega) (by simp;omega) (by decide)) ?_
    refine st_nil ?_
    refine any_1 15 _ (by decide +kernel) rfl ?_
    refine st_store rfl (.appX (d:=17) (news:=kV.map ratL) rfl rfl rfl rfl (by simp) (.inl rfl) (by decide) Tryz.underlying36 Tryz.underlying36 Z29a T29 rfl B29 (.inr (.inl rfl)) (by simp;omega) (by simp;omega) (by decide)) ?_
    refine st_nil ?_
    refine any_1 16 _ (by decide +kernel) rfl ?_
    refine zg1 ?_
    refine st_nil ?_
    refine any_1 18 _ (by decide +kernel) rfl ?_
    refine zg1 ?_
    refine st_nil ?_
    refine any_0 (by decide +kernel) ?_
    refine zg1 ?_
    exact⟨_,trivial,((put_id' (put_id' (put_id' (put_id' (mk_id' (by first | exact cl | (refine zSm ?_;refine hp_ext ?_ ?_<;>repeat (first | exact trivial | refine And.intro rfl ?_)))) cl) cl) cl) cl)).symm⟩
  ·refine zg1 ?_
   refine st_nil ?_
   refine any_2 6 10 _ _ (by decide +kernel) rfl rfl ?_ ?_
   ·refine zg1 ?_
    refine st_nil ?_
    refine any_2 9 10 _ _ (by decide +kernel) rfl rfl ?_ ?_
    ·refine st_store rfl (.appX (d:=13) (news:=kU.map ratL) rfl rfl rfl rfl (by simp) (.inl rfl) (by decide) Tryz.underlying36 Tryz.underlying36 Z29a T29 rfl B29 (.inr (.inl rfl)) (by simp;omega) (by simp;omega) (by decide)) ?_
     refine st_nil ?_
     refine any_1 10 _ (by decide +kernel) rfl ?_
     refine zg1 ?_
     refine st_nil ?_
     refine any_1 15 _ (by decide +kernel) rfl ?_
     refine st_store rfl (.appX (d:=17) (news:=kV.map ratL) rfl rfl rfl rfl (by simp) (.inl rfl) (by decide) Tryz.underlying36 Tryz.underlying36 Z29a T29 rfl B29 (.inr (.inl rfl)) (by simp;omega) (by simp;omega) (by decide)) ?_
     refine st_nil ?_
     refine any_1 16 _ (by decide +kernel) rfl ?_
     refine zg1 ?_
     refine st_nil ?_
     refine any_1 18 _ (by decide +kernel) rfl ?_
     refine zg1 ?_
     refine st_nil ?_
     refine any_0 (by decide +kernel) ?_
     refine zg1 ?_
     exact⟨_,trivial,((put_id' (put_id' (put_id' (put_id' (mk_id' (by first | exact cl | (refine zSm ?_;refine hp_ext ?_ ?_<;>repeat (first | exact trivial | refine And.intro rfl ?_)))) cl) cl) cl) cl)).symm⟩
    ·refine zg1 ?_
     refine st_nil ?_
     refine any_1 9 _ (by decide +kernel) rfl ?_
     refine st_store rfl (.appX (d:=13) (news:=kU.map ratL) rfl rfl rfl rfl (by simp) (.inl rfl) (by decide) Tryz.underlying36 Tryz.underlying36 Z29a T29 rfl B29 (.inr (.inl rfl)) (by simp;omega) (by simp;omega) (by decide)) ?_
     refine st_nil ?_
     refine any_1 15 _ (by decide +kernel) rfl ?_
     refine st_store rfl (.appX (d:=17) (news:=kV.map ratL) rfl rfl rfl rfl (by simp) (.inl rfl) (by decide) Tryz.underlying36 Tryz.underlying36 Z29a T29 rfl B29 (.inr (.inl rfl)) (by simp;omega) (by simp;omega) (by decide)) ?_
     refine st_nil ?_
     refine any_1 16 _ (by decide +kernel) rfl ?_
     refine zg1 ?_
     refine st_nil ?_
     refine any_1 18 _ (by decide +kernel) rfl ?_
     refine zg1 ?_
     refine st_nil ?_
     refine any_0 (by decide +kernel) ?_
     refine zg1 ?_
     exact⟨_,trivial,((put_id' (put_id' (put_id' (put_id' (mk_id' (by first | exact cl | (refine zSm ?_;refine hp_ext ?_ ?_<;>repeat (first | exact trivial | refine And.intro rfl ?_)))) cl) cl) cl) cl)).symm⟩
   ·refine zg1 ?_
    refine st_nil ?_
    refine any_1 6 _ (by decide +kernel) rfl ?_
    refine zg1 ?_
    refine st_nil ?_
    refine any_1 9 _ (by decide +kernel) rfl ?_
    refine st_store rfl (.appX (d:=13) (news:=kU.map ratL) rfl rfl rfl rfl (by simp) (.inl rfl) (by decide) Tryz.underlying36 Tryz.underlying36 Z29a T29 rfl B29 (.inr (.inl rfl)) (by simp;omega) (by simp;omega) (by decide)) ?_
    refine st_nil ?_
    refine any_1 15 _ (by decide +kernel) rfl ?_
    refine st_store rfl (.appX (d:=17) (news:=kV.map ratL) rfl rfl rfl rfl (by simp) (.inl rfl) (by decide) Tryz.underlying36 Tryz.underlying36 Z29a T29 rfl B29 (.inr (.inl rfl)) (by simp;omega) (by simp;omega) (by decide)) ?_
    refine st_nil ?_
    refine any_1 16 _ (by decide +kernel) rfl ?_
    refine zg1 ?_
    refine st_nil ?_
    refine any_1 18 _ (by decide +kernel) rfl ?_
    refine zg1 ?_
    refine st_nil ?_
    refine any_0 (by decide +kernel) ?_
    refine zg1 ?_
    exact⟨_,trivial,((put_id' (put_id' (put_id' (put_id' (mk_id' (by first | exact cl | (refine zSm ?_;refine hp_ext ?_ ?_<;>repeat (first | exact trivial | refine And.intro rfl ?_)))) cl) cl) cl) cl)).symm⟩
 ·rintro _ ⟨LR1,-,rfl⟩
  refine zg8 ?_
  refine wl_weak ((Weak.cell 5 rfl (fun Z μ w cs h=>rep_srf 100 1 _ _ _ _ Z μ w cs h)).trans (Weak.newB _ 100 1 rfl)) ?_
  refine lp1 (fun(i:Nat) L=>((((((St.mk L.slot (hp [(4,⟨5,[.agg [.v (.int .i64 0),.v (.int .i64 0),.v (.slice none 0 0),.v (.slice none 0 0),.v (.slice none 0 0)]],true⟩),(5,⟨5,[.agg [nI64 U,nI64 V,.ref 13 3 0 kU.length,.ref 17 3 0 kV.length,.ref 100 1 0 i]],true⟩),(13,⟨3,kU.map ratL,true⟩),(17,⟨3,kV.map ratL,true⟩),(100,⟨1,(css.take i).map prL,true⟩)])).put (some 1) (.list 3 (css.map (crL V kV)))).put (some 2) (.boxp (.agg [nI64 U,nI64 V,.list 3 (kU.map ratL),.list 3 (kV.map ratL),.list 1 (rows.map prL)]))).put (some 4) (.eptr 4 5 0 0)).put (some 5) (.eptr 5 5 0 0)).put (some 6) (nI64 i))) (fun i=>i≤css.length) (fun i=>css.length-i) 0 (Nat.zero_le _) ?_
  rintro i L1 hi
  refine zg9 ?_
  refine wl_if rfl (fun h27r h27=>?_) (fun h27r h27=>?_)
  ·have hi2:i<css.length:=by omega
   have hci:=hcl _ (getR_mem hi2)
   have hpo:=pures_map poE (css.getD i [])
   have eto:((css.take i).map prL).take i=(css.take i).map prL:=List.take_of_length_le (by simp;omega)
   have esw:(css.take i).map prL++[LV.list 12 ((css.getD i []).map poL)]=(css.take (i+1)).map prL:=by
    show (css.take i).map prL++[prL (css.getD i [])]=_
    have:=mapT (fun r:List PoR=>r) css [] hi2
    rw [List.map_id'] at this
    rw [map_snoc,this]
   refine zg4 ?_
   refine wl_regV rfl (Weak.refl _) ?_
   refine anyV_hoist 3 rfl rfl (by decide +kernel) (.move _) fmV fmA ?_
   refine anyV_hoist 4 rfl rfl (by decide +kernel) (.move _) fmV fmA ?_
   refine anyV_hoist 5 rfl rfl (by decide +kernel) (.idxL rfl Tryz.underlying111 T113 rfl (by omega) (crAt (i:=i) hi2) rfl) fmV fmA ?_
   refine anyV_hoist 6 rfl rfl (by decide +kernel) faA fmV fmA ?_
   refine anyV_hoist 7 rfl rfl (by decide +kernel) (.ldbx rfl hpo rfl rfl) fmV fmA ?_
   refine anyV_2 0 2 (by decide +kernel) ?_ ?_
   ·refine stV_one rfl ?_
    refine zg1 ?_
    refine st_nil ?_
    refine anyV_2 1 2 (by decide +kernel) ?_ ?_
    ·refine stV_one rfl ?_
     refine zg1 ?_
     refine st_nil ?_
     refine anyV_1 2 (by decide +kernel) ?_
     refine stV_one rfl ?_
     refine zg1 ?_
     refine st_nil ?_
     refine anyV_1 8 (by decide +kernel) ?_
     refine stV_hand 38 32 12 (0+((css.getD i []).map poL).length) ((css.getD i []).map poL) true rfl ?_
     refine st_store rfl (.appX (d:=32) (news:=(css.getD i []).map poL) rfl rfl rfl rfl (by simp) (.inl rfl) (by decide) Tryz.underlying60 Tryz.underlying60 Z62 T62 cs B62 (.inr (.inl rfl)) (by simp only [List.length_map];omega) (by simp only [List.length_map];omega) (by decide)) ?_
     refine st_nil ?_
     refine⟨⟨rfl,(kl0 poE 32 12 _),hpo,(by simp),by decide⟩,?_⟩
     refine anyV_1 9 (by decide +kernel) ?_
     refine stV_one rfl ?_
     refine zg1 ?_
     refine st_nil ?_
     refine anyV_1 10 (by decide +kernel) ?_
     refine stV_one rfl ?_
     refine st_store rfl (.appX (d:=100) (news:=[prL (css.getD i [])]) rfl rfl rfl rfl (by simp only [kills_map prE,List.length_map,List.length_take,List.length_cons,List.length_nil];omega) (.inl rfl) (by decide) Tryz.underlying37 Tryz.underlying37 prZ T60 cs B60 (.inl ⟨39,0,_,rfl,by decide,rfl,rfl,by simp,rfl,by simp [pures,prE.pure]⟩) (by simp only [kills_map prE,List.length_map,List.length_take,List.length_cons,List.length_nil];omega) (by simp only [kills_map prE,List.length_map,List.length_take,List.length_cons,List.length_nil];omega) (by decide)) ?_
     refine st_nil ?_
     refine anyV_1 11 (by decide +kernel) ?_
     refine stV_one rfl ?_
     refine zg1 ?_
     refine st_nil ?_
     refine anyV_1 12 (by decide +kernel) ?_
     refine stV_one rfl ?_
     refine zg1 ?_
     refine st_nil ?_
     refine anyV_0 (by decide +kernel) ?_
     refine zg2 ?_
     refine wl_regW (Weak.kill _ 39) ?_
     refine zg1 ?_
     refine st_pure rfl (.bin rfl rfl (add1N (by omega))) ?_
     refine zg3 ?_
     exact nx1 (i+1) (by omega)
    ·refine stV_one rfl ?_
     refine zg1 ?_
     refine st_nil ?_
     refine anyV_2 1 8 (by decide +kernel) ?_ ?_
     ·refine stV_one rfl ?_
      refine zg1 ?_
      refine st_nil ?_
      refine anyV_1 8 (by decide +kernel) ?_
      refine stV_hand 38 32 12 (0+((css.getD i []).map poL).length) ((css.getD i []).map poL) true rfl ?_
      refine st_store rfl (.appX (d:=32) (news:=(css.getD i []).map poL) rfl rfl rfl rfl (by simp) (.inl rfl) (by decide) Tryz.underlying60 Tryz.underlying60 Z62 T62 cs B62 (.inr (.inl rfl)) (by simp only [List.length_map];omega) (by simp only [List.length_map];omega) (by decide)) ?_
      refine st_nil ?_
      refine⟨⟨rfl,(kl0 poE 32 12 _),hpo,(by simp),by decide⟩,?_⟩
      refine anyV_1 9 (by decide +kernel) ?_
      refine stV_one rfl ?_
      refine zg1 ?_
      refine st_nil ?_
      refine anyV_1 10 (by decide +kernel) ?_
      refine stV_one rfl ?_
      refine st_store rfl (.appX (d:=100) (news:=[prL (css.getD i [])]) rfl rfl rfl rfl (by simp only [kills_map prE,List.length_map,List.length_take,List.length_cons,List.length_nil];omega) (.inl rfl) (by decide) Tryz.underlying37 Tryz.underlying37 prZ T60 cs B60 (.inl ⟨39,0,_,rfl,by decide,rfl,rfl,by simp,rfl,by simp [pures,prE.pure]⟩) (by simp only [kills_map prE,List.length_map,List.length_take,List.length_cons,List.length_nil];omega) (by simp only [kills_map prE,List.length_map,List.length_take,List.length_cons,List.length_nil];omega) (by decide)) ?_
      refine st_nil ?_
      refine anyV_1 11 (by decide +kernel) ?_
      refine stV_one rfl ?_
      refine zg1 ?_
      refine st_nil ?_
      refine anyV_1 12 (by decide +kernel) ?_
      refine stV_one rfl ?_
      refine zg1 ?_
      refine st_nil ?_
      refine anyV_0 (by decide +kernel) ?_
      refine zg2 ?_
      refine wl_regW (Weak.kill _ 39) ?_
      refine zg1 ?_
      refine st_pure rfl (.bin rfl rfl (add1N (by omega))) ?_
      refine zg3 ?_
      exact nx1 (i+1) (by omega)
     ·refine stV_hand 38 32 12 (0+((css.getD i []).map poL).length) ((css.getD i []).map poL) true rfl ?_
      refine st_store rfl (.appX (d:=32) (news:=(css.getD i []).map poL) rfl rfl rfl rfl (by simp) (.inl rfl) (by decide) Tryz.underlying60 Tryz.underlying60 Z62 T62 cs B62 (.inr (.inl rfl)) (by simp only [List.length_map];omega) (by simp only [List.length_map];omega) (by decide)) ?_
      refine st_nil ?_
      refine⟨⟨rfl,(kl0 poE 32 12 _),hpo,(by simp),by decide⟩,?_⟩
      refine anyV_2 1 9 (by decide +kernel) ?_ ?_
      ·refine stV_one rfl ?_
       refine zg1 ?_
       refine st_nil ?_
       refine anyV_1 9 (by decide +kernel) ?_
       refine stV_one rfl ?_
       refine zg1 ?_
       refine st_nil ?_
       refine anyV_1 10 (by decide +kernel) ?_
       refine stV_one rfl ?_
       refine st_store rfl (.appX (d:=100) (news:=[prL (css.getD i [])]) rfl rfl rfl rfl (by simp only [kills_map prE,List.length_map,List.length_take,List.length_cons,List.length_nil];omega) (.inl rfl) (by decide) Tryz.underlying37 Tryz.underlying37 prZ T60 cs B60 (.inl ⟨39,0,_,rfl,by decide,rfl,rfl,by simp,rfl,by simp [pures,prE.pure]⟩) (by simp only [kills_map prE,List.length_map,List.length_take,List.length_cons,List.length_nil];omega) (by simp only [kills_map prE,List.length_map,List.length_take,List.length_cons,List.length_nil];omega) (by decide)) ?_
       refine st_nil ?_
       refine anyV_1 11 (by decide +kernel) ?_
       refine stV_one rfl ?_
       refine zg1 ?_
       refine st_nil ?_
       refine anyV_1 12 (by decide +kernel) ?_
       refine stV_one rfl ?_
       refine zg1 ?_
       refine st_nil ?_
       refine anyV_0 (by decide +kernel) ?_
       refine zg2 ?_
       refine wl_regW (Weak.kill _ 39) ?_
       refine zg1 ?_
       refine st_pure rfl (.bin rfl rfl (add1N (by omega))) ?_
       refine zg3 ?_
       exact nx1 (i+1) (by omega)
      ·refine stV_one rfl ?_
       refine zg1 ?_
       refine st_nil ?_
       refine anyV_1 1 (by decide +kernel) ?_
       refine stV_one rfl ?_
       refine zg1 ?_
       refine st_nil ?_
       refine anyV_1 10 (by decide +kernel) ?_
       refine stV_one rfl ?_
       refine st_store rfl (.appX (d:=100) (news:=[prL (css.getD i [])]) rfl rfl rfl rfl (by simp only [kills_map prE,List.length_map,List.length_take,List.length_cons,List.length_nil];omega) (.inl rfl) (by decide) Tryz.underlying37 Tryz.underlying37 prZ T60 cs B60 (.inl ⟨39,0,_,rfl,by decide,rfl,rfl,by simp,rfl,by simp [pures,prE.pure]⟩) (by simp only [kills_map prE,List.length_map,List.length_take,List.length_cons,List.length_nil];omega) (by simp only [kills_map prE,List.length_map,List.length_take,List.length_cons,List.length_nil];omega) (by decide)) ?_
       refine st_nil ?_
       refine anyV_1 11 (by decide +kernel) ?_
       refine stV_one rfl ?_
       refine zg1 ?_
       refine st_nil ?_
       refine anyV_1 12 (by decide +kernel) ?_
       refine stV_one rfl ?_
       refine zg1 ?_
       refine st_nil ?_
       refine anyV_0 (by decide +kernel) ?_
       refine zg2 ?_
       refine wl_regW (Weak.kill _ 39) ?_
       refine zg1 ?_
       refine st_pure rfl (.bin rfl rfl (add1N (by omega))) ?_
       refine zg3 ?_
       exact nx1 (i+1) (by omega)
   ·refine stV_one rfl ?_
    refine zg1 ?_
    refine st_nil ?_
    refine anyV_2 0 8 (by decide +kernel) ?_ ?_
    ·refine stV_one rfl ?_
     refine zg1 ?_
     refine st_nil ?_
     refine anyV_2 1 8 (by decide +kernel) ?_ ?_
     ·refine stV_one rfl ?_
      refine zg1 ?_
      refine st_nil ?_
      refine anyV_1 8 (by decide +kernel) ?_
      refine stV_hand 38 32 12 (0+((css.getD i []).map poL).length) ((css.getD i []).map poL) true rfl ?_
      refine st_store rfl (.appX (d:=32) (news:=(css.getD i []).map poL) rfl rfl rfl rfl (by simp) (.inl rfl) (by decide) Tryz.underlying60 Tryz.underlying60 Z62 T62 cs B62 (.inr (.inl rfl)) (by simp only [List.length_map];omega) (by simp only [List.length_map];omega) (by decide)) ?_
      refine st_nil ?_
      refine⟨⟨rfl,(kl0 poE 32 12 _),hpo,(by simp),by decide⟩,?_⟩
      refine anyV_1 9 (by decide +kernel) ?_
      refine stV_one rfl ?_
      refine zg1 ?_
      refine st_nil ?_
      refine anyV_1 10 (by decide +kernel) ?_
      refine stV_one rfl ?_
      refine st_store rfl (.appX (d:=100) (news:=[prL (css.getD i [])]) rfl rfl rfl rfl (by simp only [kills_map prE,List.length_map,List.length_take,List.length_cons,List.length_nil];omega) (.inl rfl) (by decide) Tryz.underlying37 Tryz.underlying37 prZ T60 cs B60 (.inl ⟨39,0,_,rfl,by decide,rfl,rfl,by simp,rfl,by simp [pures,prE.pure]⟩) (by simp only [kills_map prE,List.length_map,List.length_take,List.length_cons,List.length_nil];omega) (by simp only [kills_map prE,List.length_map,List.length_take,List.length_cons,List.length_nil];omega) (by decide)) ?_
      refine st_nil ?_
      refine anyV_1 11 (by decide +kernel) ?_
      refine stV_one rfl ?_
      refine zg1 ?_
      refine st_nil ?_
      refine anyV_1 12 (by decide +kernel) ?_
      refine stV_one rfl ?_
      refine zg1 ?_
      refine st_nil ?_
      refine anyV_0 (by decide +kernel) ?_
      refine zg2 ?_
      refine wl_regW (Weak.kill _ 39) ?_
      refine zg1 ?_
      refine st_pure rfl (.bin rfl rfl (add1N (by omega))) ?_
      refine zg3 ?_
      exact nx1 (i+1) (by omega)
     ·refine stV_hand 38 32 12 (0+((css.getD i []).map poL).length) ((css.getD i []).map poL) true rfl ?_
      refine st_store rfl (.appX (d:=32) (news:=(css.getD i []).map poL) rfl rfl rfl rfl (by simp) (.inl rfl) (by decide) Tryz.underlying60 Tryz.underlying60 Z62 T62 cs B62 (.inr (.inl rfl)) (by simp only [List.length_map];omega) (by simp only [List.length_map];omega) (by decide)) ?_
      refine st_nil ?_
      refine⟨⟨rfl,(kl0 poE 32 12 _),hpo,(by simp),by decide⟩,?_⟩
      refine anyV_2 1 9 (by decide +kernel) ?_ ?_
      ·refine stV_one rfl ?_
       refine zg1 ?_
       refine st_nil ?_
       refine anyV_1 9 (by decide +kernel) ?_
       refine stV_one rfl ?_
       refine zg1 ?_
       refine st_nil ?_
       refine anyV_1 10 (by decide +kernel) ?_
       refine stV_one rfl ?_
       refine st_store rfl (.appX (d:=100) (news:=[prL (css.getD i [])]) rfl rfl rfl rfl (by simp only [kills_map prE,List.length_map,List.length_take,List.length_cons,List.length_nil];omega) (.inl rfl) (by decide) Tryz.underlying37 Tryz.underlying37 prZ T60 cs B60 (.inl ⟨39,0,_,rfl,by decide,rfl,rfl,by simp,rfl,by simp [pures,prE.pure]⟩) (by simp only [kills_map prE,List.length_map,List.length_take,List.length_cons,List.length_nil];omega) (by simp only [kills_map prE,List.length_map,List.length_take,List.length_cons,List.length_nil];omega) (by decide)) ?_
       refine st_nil ?_
       refine anyV_1 11 (by decide +kernel) ?_
       refine stV_one rfl ?_
       refine zg1 ?_
       refine st_nil ?_
       refine anyV_1 12 (by decide +kernel) ?_
       refine stV_one rfl ?_
       refine zg1 ?_
       refine st_nil ?_
       refine anyV_0 (by decide +kernel) ?_
       refine zg2 ?_
       refine wl_regW (Weak.kill _ 39) ?_
       refine zg1 ?_
       refine st_pure rfl (.bin rfl rfl (add1N (by omega))) ?_
       refine zg3 ?_
       exact nx1 (i+1) (by omega)
      ·refine stV_one rfl ?_
       refine zg1 ?_
       refine st_nil ?_
       refine anyV_1 1 (by decide +kernel) ?_
       refine stV_one rfl ?_
       refine zg1 ?_
       refine st_nil ?_
       refine anyV_1 10 (by decide +kernel) ?_
       refine stV_one rfl ?_
       refine st_store rfl (.appX (d:=100) (news:=[prL (css.getD i [])]) rfl rfl rfl rfl (by simp only [kills_map prE,List.length_map,List.length_take,List.length_cons,List.length_nil];omega) (.inl rfl) (by decide) Tryz.underlying37 Tryz.underlying37 prZ T60 cs B60 (.inl ⟨39,0,_,rfl,by decide,rfl,rfl,by simp,rfl,by simp [pures,prE.pure]⟩) (by simp only [kills_map prE,List.length_map,List.length_take,List.length_cons,List.length_nil];omega) (by simp only [kills_map prE,List.length_map,List.length_take,List.length_cons,List.length_nil];omega) (by decide)) ?_
       refine st_nil ?_
       refine anyV_1 11 (by decide +kernel) ?_
       refine stV_one rfl ?_
       refine zg1 ?_
       refine st_nil ?_
       refine anyV_1 12 (by decide +kernel) ?_
       refine stV_one rfl ?_
       refine zg1 ?_
       refine st_nil ?_
       refine anyV_0 (by decide +kernel) ?_
       refine zg2 ?_
       refine wl_regW (Weak.kill _ 39) ?_
       refine zg1 ?_
       refine st_pure rfl (.bin rfl rfl (add1N (by omega))) ?_
       refine zg3 ?_
       exact nx1 (i+1) (by omega)
    ·refine stV_hand 38 32 12 (0+((css.getD i []).map poL).length) ((css.getD i []).map poL) true rfl ?_
     refine st_store rfl (.appX (d:=32) (news:=(css.getD i []).map poL) rfl rfl rfl rfl (by simp) (.inl rfl) (by decide) Tryz.underlying60 Tryz.underlying60 Z62 T62 cs B62 (.inr (.inl rfl)) (by simp only [List.length_map];omega) (by simp only [List.length_map];omega) (by decide)) ?_
     refine st_nil ?_
     refine⟨⟨rfl,(kl0 poE 32 12 _),hpo,(by simp),by decide⟩,?_⟩
     refine anyV_2 0 9 (by decide +kernel) ?_ ?_
     ·refine stV_one rfl ?_
      refine zg1 ?_
      refine st_nil ?_
      refine anyV_2 1 9 (by decide +kernel) ?_ ?_
      ·refine stV_one rfl ?_
       refine zg1 ?_
       refine st_nil ?_
       refine anyV_1 9 (by decide +kernel) ?_
       refine stV_one rfl ?_
       refine zg1 ?_
       refine st_nil ?_
       refine anyV_1 10 (by decide +kernel) ?_
       refine stV_one rfl ?_
       refine st_store rfl (.appX (d:=100) (news:=[prL (css.getD i [])]) rfl rfl rfl rfl (by simp only [kills_map prE,List.length_map,List.length_take,List.length_cons,List.length_nil];omega) (.inl rfl) (by decide) Tryz.underlying37 Tryz.underlying37 prZ T60 cs B60 (.inl ⟨39,0,_,rfl,by decide,rfl,rfl,by simp,rfl,by simp [pures,prE.pure]⟩) (by simp only [kills_map prE,List.length_map,List.length_take,List.length_cons,List.length_nil];omega) (by simp only [kills_map prE,List.length_map,List.length_take,List.length_cons,List.length_nil];omega) (by decide)) ?_
       refine st_nil ?_
       refine anyV_1 11 (by decide +kernel) ?_
       refine stV_one rfl ?_
       refine zg1 ?_
       refine st_nil ?_
       refine anyV_1 12 (by decide +kernel) ?_
       refine stV_one rfl ?_
       refine zg1 ?_
       refine st_nil ?_
       refine anyV_0 (by decide +kernel) ?_
       refine zg2 ?_
       refine wl_regW (Weak.kill _ 39) ?_
       refine zg1 ?_
       refine st_pure rfl (.bin rfl rfl (add1N (by omega))) ?_
       refine zg3 ?_
       exact nx1 (i+1) (by omega)
      ·refine stV_one rfl ?_
       refine zg1 ?_
       refine st_nil ?_
       refine anyV_1 1 (by decide +kernel) ?_
       refine stV_one rfl ?_
       refine zg1 ?_
       refine st_nil ?_
       refine anyV_1 10 (by decide +kernel) ?_
       refine stV_one rfl ?_
       refine st_store rfl (.appX (d:=100) (news:=[prL (css.getD i [])]) rfl rfl rfl rfl (by simp only [kills_map prE,List.length_map,List.length_take,List.length_cons,List.length_nil];omega) (.inl rfl) (by decide) Tryz.underlying37 Tryz.underlying37 prZ T60 cs B60 (.inl ⟨39,0,_,rfl,by decide,rfl,rfl,by simp,rfl,by simp [pures,prE.pure]⟩) (by simp only [kills_map prE,List.length_map,List.length_take,List.length_cons,List.length_nil];omega) (by simp only [kills_map prE,List.length_map,List.length_take,List.length_cons,List.length_nil];omega) (by decide)) ?_
       refine st_nil ?_
       refine anyV_1 11 (by decide +kernel) ?_
       refine stV_one rfl ?_
       refine zg1 ?_
       refine st_nil ?_
       refine anyV_1 12 (by decide +kernel) ?_
       refine stV_one rfl ?_
       refine zg1 ?_
       refine st_nil ?_
       refine anyV_0 (by decide +kernel) ?_
       refine zg2 ?_
       refine wl_regW (Weak.kill _ 39) ?_
       refine zg1 ?_
       refine st_pure rfl (.bin rfl rfl (add1N (by omega))) ?_
       refine zg3 ?_
       exact nx1 (i+1) (by omega)
     ·refine stV_one rfl ?_
      refine zg1 ?_
      refine st_nil ?_
      refine anyV_1 0 (by decide +kernel) ?_
      refine stV_one rfl ?_
      refine zg1 ?_
      refine st_nil ?_
      refine anyV_1 1 (by decide +kernel) ?_
      refine stV_one rfl ?_
      refine zg1 ?_
      refine st_nil ?_
      refine anyV_1 10 (by decide +kernel) ?_
      refine stV_one rfl ?_
      refine st_store rfl (.appX (d:=100) (news:=[prL (css.getD i [])]) rfl rfl rfl rfl (by simp only [kills_map prE,List.length_map,List.length_take,List.length_cons,List.length_nil];omega) (.inl rfl) (by decide) Tryz.underlying37 Tryz.underlying37 prZ T60 cs B60 (.inl ⟨39,0,_,rfl,by decide,rfl,rfl,by simp,rfl,by simp [pures,prE.pure]⟩) (by simp only [kills_map prE,List.length_map,List.length_take,List.length_cons,List.length_nil];omega) (by simp only [kills_map prE,List.length_map,List.length_take,List.length_cons,List.length_nil];omega) (by decide)) ?_
      refine st_nil ?_
      refine anyV_1 11 (by decide +kernel) ?_
      refine stV_one rfl ?_
      refine zg1 ?_
      refine st_nil ?_
      refine anyV_1 12 (by decide +kernel) ?_
      refine stV_one rfl ?_
      refine zg1 ?_
      refine st_nil ?_
      refine anyV_0 (by decide +kernel) ?_
      refine zg2 ?_
      refine wl_regW (Weak.kill _ 39) ?_
      refine zg1 ?_
      refine st_pure rfl (.bin rfl rfl (add1N (by omega))) ?_
      refine zg3 ?_
      exact nx1 (i+1) (by omega)
  ·obtain rfl:i=css.length:=by omega
   rw [(List.take_of_length_le (Nat.le_refl _):css.take css.length=css)]
   refine zg12 ?_
   exact retC [13,17,100] rfl rfl rfl cs (at_all cs rfl) T39 (.agg (.cons (.pure rfl) (.cons (.pure rfl) (.cons (imm_refm ratE rfl rfl rfl) (.cons (imm_refm ratE rfl rfl rfl) (.cons (imm_refm prE rfl rfl rfl) .nil))))))
namespace H_c_Move12
theorem zSm {p q:Prop} (k:q) (e:p=q:=by simp only [e1,e2,e3,e4,p1,p2,p3,q1,q2,q3,l1,t0,t1,r1,r2,r3,r4,Nat.zero_add,Nat.reduceMul,Nat.reduceAdd,b1,b2,b3,b4,b5,b6,i1,i2,i3,i4,i5,i6,Nat.reduceBEq,prL,etk,egr,crL_kill,mpL_kill,kills_map (crE V kV),prL_kill,kills_map prE,dfr,dfq,take_map_len,map_snoc,len_snoc,List.length_cons,List.length_nil,List.nil_append,List.map_nil,List.take_nil,List.append_nil,List.set_cons_zero,List.set_cons_succ,Nat.reduceEqDiff,reduceIte,if_true,if_false,ptL_kill,poL_kill,kills_map ptE,kills_map poE,kills_map ratE,ratL_kill,spL_kill,LV.kill,kills];exact rfl):p:=e.mpr k
end H_c_Move12
open H_c_Move12 in
theorem c_Move12 (U V:Nat) (kU kV:List Rat) (rows:List (List PoR)) (m:M3) (h:pf 4 U V rows) (hm:bdM 1 m) (hku:kU.length≤100) (hkv:kV.length≤100):CallP Tryz.prog 17 [.agg [nI64 U,nI64 V,.list 3 (kU.map ratL),.list 3 (kV.map ratL),.list 1 (rows.map prL)],mpL m] (.agg [nI64 U,nI64 V,.list 3 (kU.map ratL),.list 3 (kV.map ratL),.list 1 ((rows.map fun r=>r.map (mvP m)).map prL)]):=by
 have hsp:LV.pure (.agg [nI64 U,nI64 V,.list 3 (kU.map ratL),.list 3 (kV.map ratL),.list 1 (rows.map prL)])=true:=by simp [LV.pure,pures,pures_map ratE,pures_map prE]
 have hpr:=pures_map prE rows
 have hpv:=pures_map ratE kV
 have hpu:=pures_map ratE kU
 have hu3:=h.u3
 have hv3:=h.v3
 have hrn:=h.n
 have hmp:=mpE.pure m
 have hspM:LV.pure (.agg [nI64 U,nI64 V,.list 3 (kU.map ratL),.list 3 (kV.map ratL),.list 1 ((rows.map fun r=>r.map (mvP m)).map prL)])=true:=by simp [LV.pure,pures,pures_map ratE,pures_map prE,-List.map_map]
 have hW:CallP Tryz.prog 76 [.agg [nI64 U,nI64 V,.list 3 (kU.map ratL),.list 3 (kV.map ratL),.list 1 (rows.map prL)],.list 3 ((rows.map fun r=>r.map (mvP m)).map (crL V kV))] (.agg [nI64 U,nI64 V,.list 3 (kU.map ratL),.list 3 (kV.map ratL),.list 1 ((rows.map fun r=>r.map (mvP m)).map prL)]):=c_WithRows U V kU kV rows (rows.map fun r=>r.map (mvP m)) (by rw [List.length_map];omega) (by rw [List.length_map];omega) (fun r hr=>by rw [(mv_pf h hm).m r hr];omega) hku hkv
 refine fnP Tryz.func17 (ht:=(fun g=>LV.ren_pure g _ (by simp [LV.pure,pures,pures_map ratE,pures_map prE,-List.map_map]))) ?_
 have etk:True:=trivial
 have egr:True:=trivial
 refine zg19 ?_
 refine wl_weak (Weak.own (t:=5) 95 3 rfl rfl) ?_
 refine lp1 (fun(i:Nat) L=>((((((St.mk L.slot (hp [(2,⟨5,[.agg [nI64 U,nI64 V,.list 3 (kU.map ratL),.list 3 (kV.map ratL),.list 1 (rows.map prL)]],true⟩),(3,⟨36,[mpL m],true⟩),(4,⟨5,[.agg [.v (.int .i64 0),.v (.int .i64 0),.v (.slice none 0 0),.v (.slice none 0 0),.v (.slice none 0 0)]],true⟩),(95,⟨3,((rows.map fun r=>r.map (mvP m)).take i).map (crL V kV),true⟩)])).put (some 2) (.eptr 2 5 0 0)).put (some 3) (.eptr 3 36 0 0)).put (some 4) (.eptr 4 5 0 0)).put (some 5) (.ref 95 3 0 i)).put (some 6) (nI64 i))) (fun i=>i≤U+1) (fun i=>U+1-i) 0 (Nat.zero_le _) ?_
 rintro i L1 hi
 refine zg10 ?_
 refine wl_if rfl (fun h11r h11=>?_) (fun h11r h11=>?_)
 ·have hi2:i<U+1:=by omega
  have hcp:=(crE V kV).pure (rows.getD i [])
  have hcm:=(crE V kV).pure ((rows.getD i []).map (mvP m))
  have hri:=h.r0 (Nat.le_of_lt_succ hi2)
  have etk:(((rows.map fun r=>r.map (mvP m)).take i).map (crL V kV)).take i=((rows.map fun r=>r.map (mvP m)).take i).map (crL V kV):=List.take_of_length_le (by simp;omega)
  have egr:=mapT (fun r:List PoR=>r.map (mvP m)) rows [] (i:=i) (by omega)
  have hRo:CallP Tryz.prog 75 [.agg [nI64 U,nI64 V,.list 3 (kU.map ratL),.list 3 (kV.map ratL),.list 1 (rows.map prL)],nI64 i] (crL V kV (rows.getD i [])):=c_FRow U V kU kV rows i (by omega) (by omega)
  have hMo:CallP Tryz.prog 74 [(crL V kV (rows.getD i [])),mpL m] (crL V kV ((rows.getD i []).map (mvP m))):=c_Move10 V kV m (rows.getD i []) 4 (by decide) ⟨hm.1.le (by decide),hm.2.1.le (by decide),hm.2.2.1.le (by decide),hm.2.2.2.le (by decide)⟩ (by omega) hkv (fun q hq=>h.ok _ (getR_mem (by omega)) q hq)
  refine zg4 ?_
  refine wl_regD 7 (by decide +kernel) ?_
  refine zg3 ?_
  refine st_callP rfl (.cons (.pure hsp) (.cons (.pure rfl) .nil)) hRo ?_
  refine st_pure rfl (.loadE rfl rfl rfl rfl (mpE.csize m) (at_all (mpE.csize m) rfl) T34) ?_
  refine zSm ?_
  refine st_callP rfl (.cons (.pure hcp) (.cons (.pure hmp) .nil)) hMo ?_
  refine st_alloc rfl rfl (crLit Tryz.underlying111 Z113 rfl rfl T113 rfl) ?_
  refine st_store rfl (.appX (d:=95) (news:=[(crL V kV ((rows.getD i []).map (mvP m)))]) rfl rfl rfl rfl (by simp only [kills_map (crE V kV),List.length_map,List.length_take,List.length_cons,List.length_nil];omega) (.inl rfl) (by decide) Tryz.underlying111 Tryz.underlying111 Z113 T113 rfl B113 (.inl ⟨20,0,_,rfl,by decide,rfl,rfl,by simp,rfl,by simp [pures,(crE V kV).pure]⟩) (by simp only [kills_map (crE V kV),List.length_map,List.length_take,List.length_cons,List.length_nil];omega) (by simp only [kills_map (crE V kV),List.length_map,List.length_take,List.length_cons,List.length_nil];omega) (by decide)) ?_
  refine zg4 ?_
  refine wl_regW (Weak.kill _ 20) ?_
  refine zg1 ?_
  refine st_pure rfl (.bin rfl rfl (add1N (by omega))) ?_
  refine zg3 ?_
  exact nx1 (i+1) (by omega)
 ·obtain rfl:i=U+1:=by omega
  rw [(List.take_of_length_le (by rw [List.length_map];omega):(rows.map fun r=>r.map (mvP m)).take (U+1)=(rows.map fun r=>r.map (mvP m)))]
  refine zg6 ?_
  refine wl_regW (Weak.hand (t:=5) (b:=95) (crE V kV) rfl rfl (by simp;omega)) ?_
  refine zg2 ?_
  refine st_callP rfl (.cons (.pure hsp) (.cons (.pure (pure_lst (crE V kV) 3 _)) .nil)) hW ?_
  refine zg4 ?_
  exact retC [] rfl rfl rfl cs (at_all cs rfl) T39 (.pure hspM)
end Go.Proofs.YtfpdccbgngdhkaaGreat
end
section
set_option linter.unusedVariables false
set_option linter.unusedSimpArgs false
namespace Go.Lg
def wideC:Op→Bool
 | .extract ..=>true
 | .assign _=>true
 | op=>wideOp op
section
variable {P:Program} {H:Heap} {ρ ρ':Operand→LV}
theorem OpV.congC {d:Nat} {op:Op} {r:LV} {fr:List (Nat × Blk)} (hov:OpV P H ρ d op r fr) (hk:wideC op=true) (hr:∀ x∈op.operands,ρ' x=ρ x):OpV P H ρ' d op r fr:=by
 cases hov with
 | pure hp =>
  by_cases hpl:plainOp op=true
  ·exact .pure (hp.cong hpl hr)
  ·by_cases hbq:∃ T ps,op=.build T ps
   ·obtain⟨T,ps,rfl⟩:=hbq
    exact .pure (hp.congB hr)
   ·cases hp with
    | ext2 hf hname hb hn he hx h1' h1 h2 =>
     refine .pure (.ext2 hf hname hb hn he ?_ h1' h1 h2)
     rw [←hx]
     exact List.map_congr_left fun x hxm=>hr x (mem_args hxm)
    | assign x=>rw [←hr x (by simp [Op.operands])];exact .pure (.assign x)
    | extract ht hq hne=>exact .pure (.extract ((hr _ (by simp [Op.operands])).trans ht) hq hne)
    | build=>exact absurd ⟨_,_,rfl⟩ hbq
    | buildA=>exact absurd ⟨_,_,rfl⟩ hbq
    | _=>first | (exfalso;exact hpl rfl) | (exfalso;revert hk hpl;simp [wideC,wideOp,plainOp])
 | alloc ha=>exact .alloc (ha.cong hr)
 | call hc =>
  cases hc with
  | func ha hkk hlen hpu =>
   refine .call (.func ?_ hkk hlen hpu)
   rw [show (_:Array Operand).toList.map ρ'=_ from List.map_congr_left fun x hxm=>hr x (mem_args hxm)]
   exact ha
  | clo=>exfalso;revert hk;simp [wideC,wideOp,plainOp]
  | mk=>exfalso;revert hk;simp [wideC,wideOp,plainOp]
theorem opvP {f:FuncId} {xs:Array Operand} {tas:Array TypeId} {args:List LV} {r:LV} {d:Nat} (ha:ImmL H (xs.toList.map ρ) args) (hk:CallP P f args r):OpV P H ρ d (.call ⟨.value (.func f),xs,tas⟩) r []:=by
 have:=OpV.call (op:=.call ⟨.value (.func f),xs,tas⟩) (OpC.func (d:=d) ha hk.1 (by simp) (by simp))
 rw [hk.2] at this
 exact this
end
section
variable {P:Program} {ops:Array Oper}
theorem step_commC {L L2:St} {d:Nat} {v:LV} {o:Oper} (hv:∀ b,v.kill b=v) (hk:wideC o.op=true) (hl:d∉o.looksAt ops) (hd:o.dst≠some d) (h:Step P false ops o (L.put (some d) v) L2) :
  ∃ L1,Step P false ops o L L1∧L2=L1.put (some d) v∧∀ t,o.dst≠some t→(∀ b,(L.slot t).kill b=L.slot t)→L1.slot t=L.slot t:=by
 have hev:=ev_put (L:=L) (v:=v) hl
 have hsl:∀ (M:St) (r:LV) t,M.slot t=L.slot t→o.dst≠some t→(M.put o.dst r).slot t=L.slot t:=fun M r t hM hne=>by
  cases hh:o.dst with
  | none=>exact hM
  | some e=>rw [put_slot,if_neg (fun q=>hne (by rw [hh,q]))];exact hM
 cases h with
 | skip hg hL=>exact⟨L.put o.dst (.tup []),.skip (guard_put hl hg) rfl,by rw [hL,put_commO L hd],fun t ht _=>hsl L _ t rfl ht⟩
 | @val r fr H1 hg hle hfr hov hL =>
  obtain⟨dst,op,ty,pos,after,gd⟩:=o
  have hev':∀ x∈op.operands,L.ev x=(L.put (some d) v).ev x:=fun x hx=>(hev x hx).symm
  have hov2:OpV P H1 L.ev (dst.getD 0) op r fr:=hov.congC hk hev'
  refine⟨⟨(L.put dst r).slot,H1⟩,.val (guard_put hl hg) hle hfr hov2 rfl,?_,fun t ht _=>hsl L r t rfl ht⟩
  rw [hL]
  have:=put_commO L hd v r
  exact congrArg (fun M=>St.mk (St.slot M) H1) this
 | st hg hot =>
  obtain⟨dst,op,ty,pos,after,gd⟩:=o
  cases hot with
  | store hp hb hs hm hi hy hput hT hne =>
   rename_i T p x b sz i o' blk y y'
   have e1:=hev p (by simp [Op.operands])
   have e2:=hev x (by simp [Op.operands])
   rw [e1] at hp
   rw [e2] at hput hT hne
   refine⟨_,.st (guard_put hl hg) (.store hp hb hs hm hi hy hput hT hne),?_,fun t ht _=>?_⟩
   ·exact put_commO (L.setB b _) hd v .any
   ·exact hsl (L.setB b _) .any t rfl ht
  | appX hx hb hs hm hlen hbd hb0 hT hU hz hE hzs hby hy hsz h63 hs0 =>
   rename_i T U E E' d' b sz len blk x y news z by_
   have e1:=hev x (by simp [Op.operands,Call.operands])
   have e2:=hev y (by simp [Op.operands,Call.operands])
   rw [e1] at hx
   rw [e2] at hy
   refine⟨_,.st (guard_put hl hg) (.appX hx hb hs hm hlen hbd hb0 hT hU hz hE hzs hby hy hsz h63 hs0),?_,fun t ht hf=>?_⟩
   ·rw [kill_put L hv]
    exact put_commO ((L.kill b).setB d' _) hd v _
   ·exact hsl ((L.kill b).setB d' _) _ t (hf b) ht
  | app0X hx hbd hT hU hz hE hzs hby hy hn hsz h63 hs0 =>
   rename_i T U E E' d' sz x y news z by_
   have e1:=hev x (by simp [Op.operands,Call.operands])
   have e2:=hev y (by simp [Op.operands,Call.operands])
   rw [e1] at hx
   rw [e2] at hy
   refine⟨_,.st (guard_put hl hg) (.app0X hx hbd hT hU hz hE hzs hby hy hn hsz h63 hs0),?_,fun t ht hf=>?_⟩
   ·exact put_commO (L.setB d' _) hd v _
   ·exact hsl (L.setB d' _) _ t rfl ht
  | _=>exfalso;revert hk;simp [wideC,wideOp,plainOp]
 | stM hdr hg hom =>
  obtain⟨dst,op,ty,pos,after,gd⟩:=o
  cases hom with
  | call hb hm hp ha hn hkk hm' hp' =>
   rename_i f xs ats args r b blk blk'
   have em:xs.toList.map (L.put (some d) v).ev=xs.toList.map L.ev:=List.map_congr_left fun x hxm=>hev x (mem_args hxm)
   rw [em] at ha hn
   refine⟨_,.stM hdr (guard_put hl hg) (.call hb hm hp ha hn hkk hm' hp'),?_,fun t ht _=>?_⟩
   ·exact put_commO (L.setB b _) hd v _
   ·exact hsl (L.setB b _) _ t rfl ht
  | appz hT hU hz hE hzs hb hx hy hbd h0 hs0 hm h63 =>
   rename_i T U E x y z k kl sz by_ n d'
   have e1:=hev x (by simp [Op.operands,Call.operands])
   have e2:=hev y (by simp [Op.operands,Call.operands])
   rw [e1] at hx
   rw [e2] at hy
   refine⟨_,.stM hdr (guard_put hl hg) (.appz hT hU hz hE hzs hb hx hy hbd h0 hs0 hm h63),?_,fun t ht _=>?_⟩
   ·exact put_commO (L.setB d' _) hd v _
   ·exact hsl (L.setB d' _) _ t rfl ht
def hoistOkC (ops:Array Oper) (i:Nat) (D:Array Bool):Bool :=
 D.size==ops.size && !D.getD i true && (dirs (ops.getD i default)).all (fun j=>D.getD j false) && (ops.getD i default).guard.isNone && wideC (ops.getD i default).op &&
 (List.range ops.size).all fun j=>j==i || D.getD j true || (wideC (ops.getD j default).op && ((ops.getD j default).dst != (ops.getD i default).dst) &&
  (match (ops.getD i default).dst with | some d=>!((ops.getD j default).looksAt ops).contains d || (dirs (ops.getD j default)).contains i | none=>false) &&
  (match (ops.getD j default).dst with | some e=>!((ops.getD i default).looksAt ops).contains e | none=>true))
theorem any_hoistC {m:Nat} {K:St→Prop} {L:St} {D:Array Bool} {d:Nat} {v:LV} (i:Nat) {o:Oper} (ho:ops[i]?=some o) (hdst:o.dst=some d) (hok:hoistOkC ops i D=true) (hv:OpV P (fun _=>none) L.ev d o.op v [])
  (hfv:∀ b,v.kill b=v) (hfo:firmAll L o.op.operands.toList)
  (h:anyL P ops m (D.setIfInBounds i true) (L.put (some d) v) K):anyL P ops (m+1) D L K:=by
 have getD_of:∀ i o,ops[i]?=some o→ops.getD i default=o:=fun i o h=>by rw [Array.getD_eq_getD_getElem?,h];rfl
 have hin:i<ops.size:=(Array.getElem?_eq_some_iff.1 ho).1
 let C:Array Bool→Prop:=fun D=>D.size=ops.size∧D.getD i false=false∧(∀ j∈dirs o,D.getD j false=true)∧∀ j oj,ops[j]?=some oj→j≠i→D.getD j false=false →
  wideC oj.op=true∧oj.dst≠some d∧(d∈oj.looksAt ops→i∈dirs oj)∧∀ e,oj.dst=some e→e∉o.looksAt ops
 unfold hoistOkC at hok
 rw [getD_of i o ho,hdst] at hok
 simp only [Bool.and_eq_true,List.all_eq_true,List.mem_range,Bool.or_eq_true,beq_iff_eq,Bool.not_eq_true',Option.isNone_iff_eq_none,bne_iff_ne,ne_eq] at hok
 obtain⟨⟨⟨⟨⟨hsz,hni⟩,hrd⟩,hgd⟩,hslim⟩,hall⟩:=hok
 have hC:C D:=by
  refine⟨hsz,by rw [getD_sz (by omega) false true];exact hni,hrd,fun j oj hj hne hDj=>?_⟩
  have hjl:j<ops.size:=(Array.getElem?_eq_some_iff.1 hj).1
  have:=hall j hjl
  rw [getD_of j oj hj] at this
  rcases this with(q | q) | q
  ·exact absurd q hne
  ·rw [getD_sz (by omega) true false,hDj] at q;cases q
  ·obtain⟨⟨⟨q1,q2⟩,q3⟩,q4⟩:=q
   refine⟨q1,q2,fun hm=>?_,fun e he hm=>?_⟩
   ·rcases q3 with q | q
    ·rw [List.contains_iff_mem.2 hm] at q;cases q
    ·exact List.contains_iff_mem.1 q
   ·rw [he] at q4
    simp only [Bool.not_eq_true'] at q4
    rw [List.contains_iff_mem.2 hm] at q4;cases q4
 have hstepi:∀ L:St,OpV P (fun _=>none) L.ev d o.op v []→Step P false ops o L (L.put (some d) v):=fun L hv=>by
  refine .val (fr:=[]) (H1:=L.heap) (r:=v) (by unfold GuardIs;rw [hgd]) (Heap.le_refl _) (fun _ _ hh=>by cases hh) (by rw [hdst];exact hv.le fun b blk h=>by cases h) ?_
  rw [hdst];rfl
 clear hsz hni hrd hall
 have hfo':∀ x∈o.op.operands,∀ b,(L.ev x).kill b=L.ev x:=fun x hx=>firmAll_mem hfo x (Array.mem_toList_iff.2 hx)
 clear hfo
 have main:∀ (n:Nat) (D:Array Bool) (L:St),C D→OpV P (fun _=>none) L.ev d o.op v []→(∀ x∈o.op.operands,∀ b,(L.ev x).kill b=L.ev x)→anyL P ops n (D.setIfInBounds i true) (L.put (some d) v) K→anyL P ops (n+1) D L K:=by
  intro n
  induction n with
  | zero =>
   intro D L ⟨c1,c2,c3,c4⟩ hv _ hh
   have hri:i∈Region.ready .any ops D:=(ready_spec c1).2 ⟨o,ho,by rw [getD_sz (by omega) true false];exact c2,c3⟩
   refine⟨fun hr=>(by rw [hr] at hri;cases hri),fun j hj=>?_⟩
   by_cases hji:j=i
   ·subst hji
    exact⟨o,_,ho,hstepi L hv,hh⟩
   ·exfalso
    obtain⟨oj,h1,h2,h3⟩:=(ready_spec c1).1 hj
    have:j∈Region.ready .any ops (D.setIfInBounds i true):=(ready_spec (by simpa using c1)).2 ⟨oj,h1,by
     rw [Array.getD_eq_getD_getElem?,Array.getElem?_setIfInBounds_ne (Ne.symm hji),←Array.getD_eq_getD_getElem?];exact h2,fun k hk=>by
     by_cases hki:i=k
     ·subst hki
      rw [Array.getD_eq_getD_getElem?,Array.getElem?_setIfInBounds_self_of_lt (by omega)];rfl
     ·rw [Array.getD_eq_getD_getElem?,Array.getElem?_setIfInBounds_ne hki,←Array.getD_eq_getD_getElem?];exact h3 k hk⟩
    rw [hh.1] at this;cases this
  | succ n ih =>
   intro D L ⟨c1,c2,c3,c4⟩ hv hfo hh
   have hri:i∈Region.ready .any ops D:=(ready_spec c1).2 ⟨o,ho,by rw [getD_sz (by omega) true false];exact c2,c3⟩
   refine⟨fun hr=>(by rw [hr] at hri;cases hri),fun j hj=>?_⟩
   by_cases hji:j=i
   ·subst hji
    exact⟨o,_,ho,hstepi L hv,hh⟩
   ·obtain⟨oj,h1,h2,h3⟩:=(ready_spec c1).1 hj
    have hjl:j<ops.size:=(Array.getElem?_eq_some_iff.1 h1).1
    have hDj:D.getD j false=false:=by rw [getD_sz (by omega) false true];exact h2
    have hji2:j∈Region.ready .any ops (D.setIfInBounds i true):=(ready_spec (by simpa using c1)).2 ⟨oj,h1,by
     rw [Array.getD_eq_getD_getElem?,Array.getElem?_setIfInBounds_ne (Ne.symm hji),←Array.getD_eq_getD_getElem?];exact h2,fun k hk=>by
     by_cases hki:i=k
     ·subst hki
      rw [Array.getD_eq_getD_getElem?,Array.getElem?_setIfInBounds_self_of_lt (by omega)];rfl
     ·rw [Array.getD_eq_getD_getElem?,Array.getElem?_setIfInBounds_ne hki,←Array.getD_eq_getD_getElem?];exact h3 k hk⟩
    obtain⟨oj',L2,g1,g2,g3⟩:=hh.2 j hji2
    rw [h1] at g1;cases g1
    obtain⟨k1,k2,k3,k4⟩:=c4 j oj h1 hji hDj
    have hnl:d∉oj.looksAt ops:=fun hm=>by
     have:=h3 i (k3 hm)
     rw [c2] at this;cases this
    obtain⟨L1,s1,s2,s3⟩:=step_commC hfv k1 hnl k2 g2
    have hsame:∀ x∈o.op.operands,L1.ev x=L.ev x:=fun x hx=>by
     cases x with
     | tmp t =>
      have ht:t∈o.looksAt ops:=by
       unfold Oper.looksAt
       simp only [List.mem_append,List.mem_filterMap]
       exact .inl ⟨.tmp t,by simpa using hx,rfl⟩
      exact s3 t (fun q=>k4 t q ht) (hfo _ hx)
     | const v=>rfl
     | func f=>rfl
     | global f=>rfl
    refine⟨oj,L1,h1,s1,ih (D.setIfInBounds j true) L1 ⟨by simpa using c1,?_,fun k hk=>?_,fun k ok hk hne hDk=>?_⟩ (hv.congC hslim hsame) (fun x hx b=>by rw [hsame x hx];exact hfo x hx b) ?_⟩
    ·rw [Array.getD_eq_getD_getElem?,Array.getElem?_setIfInBounds_ne hji,←Array.getD_eq_getD_getElem?];exact c2
    ·by_cases hjk:j=k
     ·subst hjk
      rw [Array.getD_eq_getD_getElem?,Array.getElem?_setIfInBounds_self_of_lt (by omega)];rfl
     ·rw [Array.getD_eq_getD_getElem?,Array.getElem?_setIfInBounds_ne hjk,←Array.getD_eq_getD_getElem?];exact c3 k hk
    ·by_cases hjk:j=k
     ·subst hjk
      rw [Array.getD_eq_getD_getElem?,Array.getElem?_setIfInBounds_self_of_lt (by omega)] at hDk
      cases hDk
     ·rw [Array.getD_eq_getD_getElem?,Array.getElem?_setIfInBounds_ne hjk,←Array.getD_eq_getD_getElem?] at hDk
      exact c4 k ok hk hne hDk
    ·rw [←s2]
     have:(D.setIfInBounds j true).setIfInBounds i true=(D.setIfInBounds i true).setIfInBounds j true:=by
      refine Array.ext_getElem? fun k=>?_
      by_cases q1:i=k
      ·subst q1
       rw [Array.getElem?_setIfInBounds_self_of_lt (by simp;omega),Array.getElem?_setIfInBounds_ne hji,Array.getElem?_setIfInBounds_self_of_lt (by omega)]
      ·by_cases q2:j=k
       ·subst q2
        rw [Array.getElem?_setIfInBounds_ne q1,Array.getElem?_setIfInBounds_self_of_lt (by omega),Array.getElem?_setIfInBounds_self_of_lt (by simp;omega)]
       ·rw [Array.getElem?_setIfInBounds_ne q1,Array.getElem?_setIfInBounds_ne q2,Array.getElem?_setIfInBounds_ne q2,Array.getElem?_setIfInBounds_ne q1]
     rw [this];exact g3
 exact main m D L hC hv hfo' h
end
end Go.Lg
end
section
set_option linter.unusedVariables false
set_option linter.unusedSimpArgs false
set_option maxHeartbeats 8000000
set_option maxRecDepth 100000
attribute [local irreducible] Go.Lg.opsL Go.Lg.wpL Go.Lg.thenL Go.Lg.blockL
namespace Go.Proofs.YtfpdccbgngdhkaaGreat
open Go.Lg
theorem turns_any (U V:Nat) (S T:Rat) (rows:List (List PoR)) (m:M3) (h:pf 4 U V rows) (hm:bdM 1 m) (g1:rl S≤1) (g2:rl (S+1)≤1) (g3:rl T≤1) (g4:rl (T+1)≤1) (i j:Int):∃ va vb:V3,bd3 210000000 va∧bd3 210000000 vb∧bd3 840000005 (v3x va vb)∧bd3 840000005 (v3x vb va)∧bd3 1000000000 (m3t m va)∧bd3 1000000000 (m3t m vb)∧v3a (v3x va vb) (v3x vb va)=⟨0,0,0⟩ ∧
  CallP Tryz.prog 14 [.agg [nI64 U,nI64 V,.list 3 ((kn2 U S (S+1)).map ratL),.list 3 ((kn2 V T (T+1)).map ratL),.list 1 (rows.map prL)],ratL (S+ptV i),ratL (T+ptV j)] (.tup [ptL (v3x va vb),iL 0]) ∧
  CallP Tryz.prog 15 [.agg [nI64 U,nI64 V,.list 3 ((kn2 U S (S+1)).map ratL),.list 3 ((kn2 V T (T+1)).map ratL),.list 1 (rows.map prL)]] (.agg [nI64 V,nI64 U,.list 3 ((kn2 V T (T+1)).map ratL),.list 3 ((kn2 U S (S+1)).map ratL),.list 1 ((swR V rows).map prL)]) ∧
  CallP Tryz.prog 14 [.agg [nI64 V,nI64 U,.list 3 ((kn2 V T (T+1)).map ratL),.list 3 ((kn2 U S (S+1)).map ratL),.list 1 ((swR V rows).map prL)],ratL (T+ptV j),ratL (S+ptV i)] (.tup [ptL (v3x vb va),iL 0]) ∧
  CallP Tryz.prog 16 [.agg [nI64 U,nI64 V,.list 3 ((kn2 U S (S+1)).map ratL),.list 3 ((kn2 V T (T+1)).map ratL),.list 1 (rows.map prL)],ratL (S+ptV i),ratL (T+ptV j)] (.tup [ptL va,ptL vb,iL 0]) ∧
  CallP Tryz.prog 17 [.agg [nI64 U,nI64 V,.list 3 ((kn2 U S (S+1)).map ratL),.list 3 ((kn2 V T (T+1)).map ratL),.list 1 (rows.map prL)],mpL m] (.agg [nI64 U,nI64 V,.list 3 ((kn2 U S (S+1)).map ratL),.list 3 ((kn2 V T (T+1)).map ratL),.list 1 ((rows.map fun r=>r.map (mvP m)).map prL)]) ∧
  CallP Tryz.prog 16 [.agg [nI64 U,nI64 V,.list 3 ((kn2 U S (S+1)).map ratL),.list 3 ((kn2 V T (T+1)).map ratL),.list 1 ((rows.map fun r=>r.map (mvP m)).map prL)],ratL (S+ptV i),ratL (T+ptV j)] (.tup [ptL (m3t m va),ptL (m3t m vb),iL 0]):=by
 have hu3:=h.u3
 have hv3:=h.v3
 have hi:=ptV_rl i
 have hj:=ptV_rl j
 have su:=wi_rl g1 i
 have sv:=wi_rl g3 j
 have hx:shX (ptV i):=shX_of (by omega)
 have hy:shX (ptV j):=shX_of (by omega)
 have w1:=rl_sub (S+1) S
 have w2:=rl_sub (T+1) T
 have hk1:=kn2_len U S (S+1)
 have hk2:=kn2_len V T (T+1)
 have hs:=swR_pf h
 have hmv:=mv_pf h hm
 have hA:=(pdv_bd h (dfS_U hu3 hv3) (by decide) (wd:=S+1-S) (by omega) hx hy).2.2
 have hB:=(pdv_bd h (dfS_V hu3 hv3) (by decide) (wd:=T+1-T) (by omega) hx hy).2.2
 have hA2:=(pdv_bd hmv (dfS_U hu3 hv3) (by decide) (wd:=S+1-S) (by omega) hx hy).2.2
 have hB2:=(pdv_bd hmv (dfS_V hu3 hv3) (by decide) (wd:=T+1-T) (by omega) hx hy).2.2
 have hD:=c_PDer 4 U V S (S+1) T (T+1) rows h (by omega) (by omega) (by omega) (by omega) (lt_one _) (lt_one _) (S+ptV i) (T+ptV j) (ptV i) (ptV j) (by omega) (by omega) hx hy (par_one _ _) (par_one _ _) (by decide) (wi_has _ _) (wi_has _ _)
 have hE:=c_PDer 4 V U T (T+1) S (S+1) (swR V rows) hs (by omega) (by omega) (by omega) (by omega) (lt_one _) (lt_one _) (T+ptV j) (S+ptV i) (ptV j) (ptV i) (by omega) (by omega) hy hx (par_one _ _) (par_one _ _) (by decide) (wi_has _ _) (wi_has _ _)
 have hF:=c_PDer 25 U V S (S+1) T (T+1) (rows.map fun r=>r.map (mvP m)) hmv (by omega) (by omega) (by omega) (by omega) (lt_one _) (lt_one _) (S+ptV i) (T+ptV j) (ptV i) (ptV j) (by omega) (by omega) hx hy (par_one _ _) (par_one _ _) (by decide) (wi_has _ _) (wi_has _ _)
 rw [pdv_swU h,pdv_swV h] at hE
 rw [mv_flat,pdv_mv (dfS_U hu3 hv3) (dLin_U U V) h.len,pdv_mv (dfS_V hu3 hv3) (dLin_V U V) h.len] at hF
 rw [mv_flat,pdv_mv (dfS_U hu3 hv3) (dLin_U U V) h.len] at hA2
 rw [mv_flat,pdv_mv (dfS_V hu3 hv3) (dLin_V U V) h.len] at hB2
 exact⟨_,_,hA,hB,(v3x_bd hA hB).le (by decide),(v3x_bd hB hA).le (by decide),hA2.le (by decide),hB2.le (by decide),x_anti _ _,c_PNor U V _ _ rows _ _ _ _ 0 hA hB hD,c_FSwap 4 U V _ _ rows h (by omega) (by omega),c_PNor V U _ _ (swR V rows) _ _ _ _ 0 hB hA hE,hD,
  c_Move12 U V _ _ rows m h hm (by omega) (by omega),hF⟩
theorem surf_any (l:List Int) (k:Nat) (hl5:l.length≤500) (hk:k≤500):∃ (U V:Nat) (S T:Rat) (rows:List (List PoR)) (e:Nat),pf 4 U V rows∧rl S≤1∧rl (S+1)≤1∧rl T≤1∧rl (T+1)≤1 ∧
  CallOKM Tryz.prog 11 ⟨2,[diceL l k],true⟩ [.eptr 0 2 0 0,nI64 2,nI64 0] (.agg [nI64 U,nI64 V,.list 3 ((kn2 U S (S+1)).map ratL),.list 3 ((kn2 V T (T+1)).map ratL),.list 1 (rows.map prL)]) ⟨2,[diceL l e],true⟩:=by
 obtain⟨g1,g2⟩:rl (pTU l k 2)≤1∧rl (pTU l k 2+1)≤1:=dt_rl l _
 obtain⟨g3,g4⟩:rl (pTV l k 2)≤1∧rl (pTV l k 2+1)≤1:=dt_rl l _
 have hS:=c_DSurface l k hl5 2 (by decide) (by decide) 0 (by decide) hk
 rw [pKU_eq l k 2,pKV_eq l k 2] at hS
 exact⟨_,_,pTU l k 2,pTV l k 2,sR l k 2 0,_,sR_pf (n:=2) hl5 hk (by decide) (by decide),g1,g2,g3,g4,hS⟩
namespace H_c_PatchTurns
theorem zSm {p q:Prop} (k:q) (e:p=q:=by simp only [e1,e2,e3,e4,p1,p2,p3,q1,q2,q3,l1,t0,t1,r1,r2,r3,r4,Nat.zero_add,Nat.reduceMul,Nat.reduceAdd,b1,b2,b3,b4,b5,b6,i1,i2,i3,i4,i5,i6,Nat.reduceBEq,fz0,frz_c,mpL_kill,prL_kill,kills_map prE,dfr,dfq,take_map_len,map_snoc,len_snoc,List.length_cons,List.length_nil,List.nil_append,List.map_nil,List.take_nil,List.append_nil,List.set_cons_zero,List.set_cons_succ,Nat.reduceEqDiff,reduceIte,if_true,if_false,ptL_kill,poL_kill,kills_map ptE,kills_map poE,kills_map ratE,ratL_kill,spL_kill,LV.kill,kills,dice_kill];exact rfl):p:=e.mpr k
end H_c_PatchTurns
open H_c_PatchTurns in
theorem c_PatchTurns (l:List Int) (i j:Int) (hl:l.length≤9223372036854775807∧∀ n∈l,-9223372036854775808≤n∧n≤9223372036854775807) (hi:-9223372036854775808≤i∧i≤9223372036854775807) (hj:-9223372036854775808≤j∧j≤9223372036854775807):CallP Tryz.prog 3 [.list 1 (l.map i64L),iL i,iL j] (bL true):=by
 have hlt:=hl.1
 refine fnP Tryz.func3 ?_
 refine zg9 ?_
 refine cp am1 (c_Light l hlt) ?_
 refine zg3 ?_
 refine wl_if rfl (fun h26r h26=>?_) (fun h26r h26=>?_)
 ·refine zg2 ?_
  refine cp am0 (c_awake13) ?_
  refine zg5 ?_
  exact ret1 rfl (.pure rfl)
 ·have hl5:l.length≤500:=by simpa using h26
  have hDM:=c_DMap l 0 hl5 (Nat.zero_le _)
  have hk4:=dmK_le hl5 (Nat.zero_le 500)
  have hm:=dm_bd l 0
  obtain⟨m,hme⟩:∃ m,dmV l 0=m:=⟨_,rfl⟩
  obtain⟨kk,hkk⟩:∃ kk,dmK l 0=kk:=⟨_,rfl⟩
  rw [hme,hkk] at hDM
  rw [hme] at hm
  rw [hkk] at hk4
  obtain⟨U,V,S,T,rows,e,hpF,g1,g2,g3,g4,hSf⟩:=surf_any l kk hl5 hk4
  obtain⟨va,vb,ha,hb,hxa,hxb,hta,htb,hz,hN,hSw,hN2,hD,hMo,hD2⟩:=turns_any U V S T rows m hpF hm g1 g2 g3 g4 i j
  have hsp:LV.pure (.agg [nI64 U,nI64 V,.list 3 ((kn2 U S (S+1)).map ratL),.list 3 ((kn2 V T (T+1)).map ratL),.list 1 (rows.map prL)])=true:=by simp [LV.pure,pures,pures_map ratE,pures_map prE]
  have hsx:LV.pure (.agg [nI64 V,nI64 U,.list 3 ((kn2 V T (T+1)).map ratL),.list 3 ((kn2 U S (S+1)).map ratL),.list 1 ((swR V rows).map prL)])=true:=by simp [LV.pure,pures,pures_map ratE,pures_map prE]
  have hsm:LV.pure (.agg [nI64 U,nI64 V,.list 3 ((kn2 U S (S+1)).map ratL),.list 3 ((kn2 V T (T+1)).map ratL),.list 1 ((rows.map fun r=>r.map (mvP m)).map prL)])=true:=by simp [LV.pure,pures,pures_map ratE,pures_map prE,-List.map_map]
  have hmp:=mpE.pure m
  have hWi:CallP Tryz.prog 13 [spL (S,S+1),iL i] (ratL (S+ptV i)):=by
   have:=c_Within (S,S+1) i 1 (by decide) ⟨g1,g2⟩ hi
   rwa [wi_one] at this
  have hWj:CallP Tryz.prog 13 [spL (T,T+1),iL j] (ratL (T+ptV j)):=by
   have:=c_Within (T,T+1) j 1 (by decide) ⟨g3,g4⟩ hj
   rwa [wi_one] at this
  have hu3:=hpF.u3
  have hv3:=hpF.v3
  have hDm:=c_FDom12 U V S (S+1) T (T+1) rows (by omega) (by omega) (by omega) (by omega) (lt_one _) (lt_one _) (by omega) (by omega)
  have hAd:CallP Tryz.prog 19 [ptL (v3x va vb),ptL (v3x vb va)] (ptL ⟨0,0,0⟩):=by
   have:=c_FVAdd (v3x va vb) (v3x vb va) 1000000000 (by decide) (hxa.le (by decide)) (hxb.le (by decide))
   rwa [hz] at this
  have hZe:CallP Tryz.prog 18 [ptL ⟨0,0,0⟩] (bL true):=by
   have:=c_FVZero ⟨0,0,0⟩ ⟨by decide +kernel,by decide +kernel,by decide +kernel⟩
   rwa [(eqV_iff.2 rfl:eqV ⟨0,0,0⟩ ⟨0,0,0⟩=true)] at this
  have hm2:bdM 210000000 m:=⟨hm.1.le (by decide),hm.2.1.le (by decide),hm.2.2.1.le (by decide),hm.2.2.2.le (by decide)⟩
  refine zg5 ?_
  refine st_call1 [] rfl rfl (.cons im0 .nil) (c_Roll l) (dice_pure l 0) rfl ?_
  refine zg6 ?_
  refine st_callMp 1000465 rfl rfl rfl (dice_pure l _) (.cons .ptr .nil) .ptr hDM rfl (dice_pure l _) hmp ?_
  refine zg1 ?_
  refine st_store rfl (.stp (v:=mpL m) rfl rfl rfl rfl (mpE.csize _) (mpE.csize _) rfl (put_all (by rw [mpE.csize,mpE.csize]) rfl rfl) ⟨by simp [mpL],by simp [mpL]⟩) ?_
  refine zg5 ?_
  refine st_callMp 1000465 rfl rfl rfl (dice_pure l _) (.cons .ptr (.cons (.imm (.pure rfl)) (.cons (.imm (.pure rfl)) .nil))) .ptr hSf rfl (dice_pure l _) hsp ?_
  refine zg7 ?_
  refine cp am1 (hDm) ?_
  refine zg10 ?_
  refine wl_regD 8 (by decide +kernel) ?_
  refine zg2 ?_
  refine cp am2 (hWi) ?_
  refine zg2 ?_
  refine cp am2 (hWj) ?_
  refine zg7 ?_
  refine wl_regW (((Weak.kill _ 1000465).trans (Weak.kill _ 10)).trans (Weak.kill _ 11)) ?_
  refine zSm ?_
  refine zg3 ?_
  refine cp am3 (hN) ?_
  refine zg9 ?_
  refine wl_regF 9 [7] (by decide +kernel) ?_
  refine zg1 ?_
  refine cp am1 (hSw) ?_
  refine zg2 ?_
  refine cp am3 (hN2) ?_
  refine zg13 ?_
  refine cp am3 (hD) ?_
  refine zg12 ?_
  refine wl_regAW (((((Weak.boxp (t:=9) (b:=9) rfl rfl cs rfl hsp)).trans (Weak.boxp (t:=8) (b:=8) rfl rfl (by simp only [mpL_kill];exact mpE.csize m) (by simp only [mpL_kill];rfl) (by simp only [mpL_kill];exact hmp))).trans (Weak.boxp (t:=12) (b:=12) rfl rfl (by simp only [ratL_kill];exact ratE.csize _) (by simp only [ratL_kill];exact ratE.isAgg _) (by simp only [ratL_kill];exact ratE.pure _))).trans (Weak.boxp (t:=13) (b:=13) rfl rfl (by simp only [ratL_kill];exact ratE.csize _) (by simp only [ratL_kill];exact ratE.isAgg _) (by simp only [ratL_kill];exact ratE.pure _))) ?_
  refine zSm ?_
  refine any_hoistC 0 rfl rfl (by decide +kernel) (.pure (.ldbx rfl hsp rfl rfl)) (fun b=>LV.kill_pure b _ hsp) fmA ?_
  refine any_hoistC 1 rfl rfl (by decide +kernel) (.pure (.ldbx rfl hmp (mpE.csize m) rfl)) (fun b=>LV.kill_pure b _ hmp) fmA ?_
  refine any_hoistC 2 rfl rfl (by decide +kernel) (opvP (.cons (.pure hsp) (.cons (.pure hmp) .nil)) hMo) (fun b=>LV.kill_pure b _ hsm) (And.intro (fun _=>rfl) (And.intro (fun b=>show LV.kill b (.agg [nI64 U,nI64 V,.list 3 ((kn2 U S (S+1)).map ratL),.list 3 ((kn2 V T (T+1)).map ratL),.list 1 (rows.map prL)])=(.agg [nI64 U,nI64 V,.list 3 ((kn2 U S (S+1)).map ratL),.list 3 ((kn2 V T (T+1)).map ratL),.list 1 (rows.map prL)]) from LV.kill_pure b _ hsp) (And.intro (fun b=>show LV.kill b ((mpL m))=((mpL m)) from LV.kill_pure b _ hmp) trivial))) ?_
  refine any_hoistC 3 rfl rfl (by decide +kernel) (.pure (.ldbx rfl (ratE.pure _) (ratE.csize _) (ratE.isAgg _))) (fun b=>ratL_kill _ b) fmA ?_
  refine any_hoistC 4 rfl rfl (by decide +kernel) (.pure (.ldbx rfl (ratE.pure _) (ratE.csize _) (ratE.isAgg _))) (fun b=>ratL_kill _ b) fmA ?_
  refine any_hoistC 5 rfl rfl (by decide +kernel) (opvP (.cons (.pure hsm) (.cons (.pure (ratE.pure _)) (.cons (.pure (ratE.pure _)) .nil))) hD2) (fun b=>show LV.kill b (.tup [ptL (m3t m va),ptL (m3t m vb),iL 0]:LV)=(.tup [ptL (m3t m va),ptL (m3t m vb),iL 0]:LV) from by simp only [LV.kill,kills,ptL_kill]) (And.intro (fun _=>rfl) (And.intro (fun b=>show LV.kill b (.agg [nI64 U,nI64 V,.list 3 ((kn2 U S (S+1)).map ratL),.list 3 ((kn2 V T (T+1)).map ratL),.list 1 ((rows.map fun r=>r.map (mvP m)).map prL)])=(.agg [nI64 U,nI64 V,.list 3 ((kn2 U S (S+1)).map ratL),.list 3 ((kn2 V T (T+1)).map ratL),.list 1 ((rows.map fun r=>r.map (mvP m)).map prL)]) from LV.kill_pure b _ hsm) (And.intro (fun b=>show LV.kill b (ratL (S+ptV i))=ratL (S+ptV i) from ratL_kill _ b) (And.intro (fun b=>show LV.kill b (ratL (T+ptV j))=ratL (T+ptV j) from ratL_kill _ b) trivial)))) ?_
  refine any_hoistC 6 rfl rfl (by decide +kernel) (.pure (.move _)) (fun b=>show LV.kill b (.tup [ptL (m3t m va),ptL (m3t m vb),iL 0]:LV)=(.tup [ptL (m3t m va),ptL (m3t m vb),iL 0]:LV) from by simp only [LV.kill,kills,ptL_kill]) (And.intro (fun b=>show LV.kill b (.tup [ptL (m3t m va),ptL (m3t m vb),iL 0]:LV)=(.tup [ptL (m3t m va),ptL (m3t m vb),iL 0]:LV) from by simp only [LV.kill,kills,ptL_kill]) trivial) ?_
  refine any_hoistC 7 rfl rfl (by decide +kernel) (.pure (.extract rfl rfl (LV.pure_ne_tup (ptE.pure _)))) (fun b=>ptL_kill _ b) (And.intro (fun b=>show LV.kill b (.tup [ptL (m3t m va),ptL (m3t m vb),iL 0]:LV)=(.tup [ptL (m3t m va),ptL (m3t m vb),iL 0]:LV) from by simp only [LV.kill,kills,ptL_kill]) trivial) ?_
  refine any_hoistC 8 rfl rfl (by decide +kernel) (.pure (.extract rfl rfl (LV.pure_ne_tup (ptE.pure _)))) (fun b=>ptL_kill _ b) (And.intro (fun b=>show LV.kill b (.tup [ptL (m3t m va),ptL (m3t m vb),iL 0]:LV)=(.tup [ptL (m3t m va),ptL (m3t m vb),iL 0]:LV) from by simp only [LV.kill,kills,ptL_kill]) trivial) ?_
  refine any_hoistC 9 rfl rfl (by decide +kernel) (.pure (.extract rfl rfl (LV.pure_ne_tup rfl))) fmV (And.intro (fun b=>show LV.kill b (.tup [ptL (m3t m va),ptL (m3t m vb),iL 0]:LV)=(.tup [ptL (m3t m va),ptL (m3t m vb),iL 0]:LV) from by simp only [LV.kill,kills,ptL_kill]) trivial) ?_
  refine any_2 10 11 _ _ (by decide +kernel) rfl rfl ?_ ?_
  ·refine zg1 ?_
   refine st_nil ?_
   refine any_1 11 _ (by decide +kernel) rfl ?_
   refine zg1 ?_
   refine st_nil ?_
   refine any_1 12 _ (by decide +kernel) rfl ?_
   refine zg1 ?_
   refine st_nil ?_
   refine any_1 13 _ (by decide +kernel) rfl ?_
   refine zg1 ?_
   refine st_nil ?_
   refine any_1 14 _ (by decide +kernel) rfl ?_
   refine zg1 ?_
   refine st_nil ?_
   refine any_0 (by decide +kernel) ?_
   refine zg2 ?_
   refine wl_regD 38 (by decide +kernel) ?_
   refine zg3 ?_
   refine st_pure (guardX (v:=true) rfl rfl ((rfl)) rfl) (.move _) ?_
   refine st_pure (guardX (v:=true) rfl rfl ((rfl)) rfl) (.bin rfl rfl rfl) ?_
   refine st_pure rfl (.pickT rfl ((rfl))) ?_
   refine zg1 ?_
   refine st_pure (guardX (v:=true) rfl rfl ((rfl)) rfl) (.move _) ?_
   refine st_pure (guardX (v:=true) rfl rfl ((rfl)) rfl) (.bin rfl rfl rfl) ?_
   refine st_pure rfl (.pickT rfl ((rfl))) ?_
   refine zg1 ?_
   refine st_pure (guardX (v:=true) rfl rfl ((rfl)) rfl) (.move _) ?_
   refine st_pure (guardX (v:=true) rfl rfl ((rfl)) rfl) (.bin rfl rfl rfl) ?_
   refine st_pure rfl (.pickT rfl ((rfl))) ?_
   refine zg1 ?_
   refine st_pure (guardX (v:=true) rfl rfl ((rfl)) rfl) ldA ?_
   refine st_pure (guardX (v:=true) rfl rfl ((rfl)) rfl) ldA ?_
   refine st_callP (guardX (v:=true) rfl rfl ((rfl)) rfl) (.cons im0 (.cons im0 .nil)) (hAd) ?_
   refine st_callP (guardX (v:=true) rfl rfl ((rfl)) rfl) (.cons im0 .nil) (hZe) ?_
   refine st_pure rfl (.pickT rfl ((rfl))) ?_
   refine zg1 ?_
   refine st_pure (guardX (v:=true) rfl rfl ((rfl)) rfl) (.ldbx rfl hmp (mpE.csize m) rfl) ?_
   refine st_pure (guardX (v:=true) rfl rfl ((rfl)) rfl) ldA ?_
   refine st_callP (guardX (v:=true) rfl rfl ((rfl)) rfl) (.cons (.pure hmp) (.cons (.pure (ptE.pure _)) .nil)) (c_FTurn m va 210000000 (by decide) hm2 ha) ?_
   refine st_pure (guardX (v:=true) rfl rfl ((rfl)) rfl) ldA ?_
   refine st_callP (guardX (v:=true) rfl rfl ((rfl)) rfl) (.cons im0 (.cons im0 .nil)) (c_FPtSame (m3t m va) (hta.le (by decide))) ?_
   refine st_pure rfl (.pickT rfl ((rfl))) ?_
   refine zg1 ?_
   refine st_pure (guardX (v:=true) rfl rfl ((rfl)) rfl) (.ldbx rfl hmp (mpE.csize m) rfl) ?_
   refine st_pure (guardX (v:=true) rfl rfl ((rfl)) rfl) ldA ?_
   refine st_callP (guardX (v:=true) rfl rfl ((rfl)) rfl) (.cons (.pure hmp) (.cons (.pure (ptE.pure _)) .nil)) (c_FTurn m vb 210000000 (by decide) hm2 hb) ?_
   refine st_pure (guardX (v:=true) rfl rfl ((rfl)) rfl) ldA ?_
   refine st_callP (guardX (v:=true) rfl rfl ((rfl)) rfl) (.cons im0 (.cons im0 .nil)) (c_FPtSame (m3t m vb) (htb.le (by decide))) ?_
   refine st_pure rfl (.pickT rfl ((rfl))) ?_
   refine zg1 ?_
   refine st_callP (guardX (v:=true) rfl rfl ((rfl)) rfl) .nil (c_awake13) ?_
   refine st_pure rfl (.pickT rfl ((rfl))) ?_
   refine zg4 ?_
   exact ret1 rfl (.pure rfl)
  ·refine zg1 ?_
   refine st_nil ?_
   refine any_1 10 _ (by decide +kernel) rfl ?_
   refine zg1 ?_
   refine st_nil ?_
   refine any_1 12 _ (by decide +kernel) rfl ?_
   refine zg1 ?_
   refine st_nil ?_
   refine any_1 13 _ (by decide +kernel) rfl ?_
   refine zg1 ?_
   refine st_nil ?_
   refine any_1 14 _ (by decide +kernel) rfl ?_
   refine zg1 ?_
   refine st_nil ?_
   refine any_0 (by decide +kernel) ?_
   refine zg2 ?_
   refine wl_regD 38 (by decide +kernel) ?_
   refine zg3 ?_
   refine st_pure (guardX (v:=true) rfl rfl ((rfl)) rfl) (.move _) ?_
   refine st_pure (guardX (v:=true) rfl rfl ((rfl)) rfl) (.bin rfl rfl rfl) ?_
   refine st_pure rfl (.pickT rfl ((rfl))) ?_
   refine zg1 ?_
   refine st_pure (guardX (v:=true) rfl rfl ((rfl)) rfl) (.move _) ?_
   refine st_pure (guardX (v:=true) rfl rfl ((rfl)) rfl) (.bin rfl rfl rfl) ?_
   refine st_pure rfl (.pickT rfl ((rfl))) ?_
   refine zg1 ?_
   refine st_pure (guardX (v:=true) rfl rfl ((rfl)) rfl) (.move _) ?_
   refine st_pure (guardX (v:=true) rfl rfl ((rfl)) rfl) (.bin rfl rfl rfl) ?_
   refine st_pure rfl (.pickT rfl ((rfl))) ?_
   refine zg1 ?_
   refine st_pure (guardX (v:=true) rfl rfl ((rfl)) rfl) ldA ?_
   refine st_pure (guardX (v:=true) rfl rfl ((rfl)) rfl) ldA ?_
   refine st_callP (guardX (v:=true) rfl rfl ((rfl)) rfl) (.cons im0 (.cons im0 .nil)) (hAd) ?_
   refine st_callP (guardX (v:=true) rfl rfl ((rfl)) rfl) (.cons im0 .nil) (hZe) ?_
   refine st_pure rfl (.pickT rfl ((rfl))) ?_
   refine zg1 ?_
   refine st_pure (guardX (v:=true) rfl rfl ((rfl)) rfl) (.ldbx rfl hmp (mpE.csize m) rfl) ?_
   refine st_pure (guardX (v:=true) rfl rfl ((rfl)) rfl) ldA ?_
   refine st_callP (guardX (v:=true) rfl rfl ((rfl)) rfl) (.cons (.pure hmp) (.cons (.pure (ptE.pure _)) .nil)) (c_FTurn m va 210000000 (by decide) hm2 ha) ?_
   refine st_pure (guardX (v:=true) rfl rfl ((rfl)) rfl) ldA ?_
   refine st_callP (guardX (v:=true) rfl rfl ((rfl)) rfl) (.cons im0 (.cons im0 .nil)) (c_FPtSame (m3t m va) (hta.le (by decide))) ?_
   refine st_pure rfl (.pickT rfl ((rfl))) ?_
   refine zg1 ?_
   refine st_pure (guardX (v:=true) rfl rfl ((rfl)) rfl) (.ldbx rfl hmp (mpE.csize m) rfl) ?_
   refine st_pure (guardX (v:=true) rfl rfl ((rfl)) rfl) ldA ?_
   refine st_callP (guardX (v:=true) rfl rfl ((rfl)) rfl) (.cons (.pure hmp) (.cons (.pure (ptE.pure _)) .nil)) (c_FTurn m vb 210000000 (by decide) hm2 hb) ?_
   refine st_pure (guardX (v:=true) rfl rfl ((rfl)) rfl) ldA ?_
   refine st_callP (guardX (v:=true) rfl rfl ((rfl)) rfl) (.cons im0 (.cons im0 .nil)) (c_FPtSame (m3t m vb) (htb.le (by decide))) ?_
   refine st_pure rfl (.pickT rfl ((rfl))) ?_
   refine zg1 ?_
   refine st_callP (guardX (v:=true) rfl rfl ((rfl)) rfl) .nil (c_awake13) ?_
   refine st_pure rfl (.pickT rfl ((rfl))) ?_
   refine zg4 ?_
   exact ret1 rfl (.pure rfl)
end Go.Proofs.YtfpdccbgngdhkaaGreat
end
