/- Texts Y0, K25, LgS, K26, A4, LgT, LgU, LgV, LgX, LgC, Z1, Z2, Z3, A1, A6, A7, A8 of this proof, joined. -/
import Derived.Test.YtckppbhafancnaaGreatQM5
set_option linter.unusedVariables false
set_option linter.unusedSimpArgs false
section
set_option linter.unusedVariables false
set_option linter.unusedSimpArgs false
set_option maxHeartbeats 8000000
set_option maxRecDepth 100000
attribute [local irreducible] Go.Lg.opsL Go.Lg.wpL Go.Lg.thenL Go.Lg.blockL
namespace Go.Proofs.YtckppbhafancnaaGreat
open Go.Lg
def nG (p q:V3):V3:=⟨p.y*q.z-p.z*q.y,p.z*q.x-p.x*q.z,p.x*q.y-p.y*q.x⟩
theorem qE {R:Nat} {p q:V3} (hp:fH R p) (hq:fH R q):fH (4*R+5) (nG p q):=by
 obtain⟨a1,a2,a3⟩:=hp
 obtain⟨b1,b2,b3⟩:=hq
 have g:∀ a b c d:Rat,rl a≤R→rl b≤R→rl c≤R→rl d≤R→rl (a*b-c*d)≤4*R+5:=fun a b c d h1 h2 h3 h4=>by
  have m1:=bR a b
  have m2:=bR c d
  have m3:=d9 (a*b) (c*d)
  omega
 exact⟨g _ _ _ _ a2 b3 a3 b2,g _ _ _ _ a3 b1 a1 b3,g _ _ _ _ a1 b2 a2 b1⟩
def sbS (s t:Rat × Rat):Rat × Rat:=(s.1-t.2,s.2-t.1)
theorem aFX {R S:Nat} {s t:Rat × Rat} (hs:iQ R s) (ht:iQ S t):iQ (R+S+1) (sbS s t):=by
 have m1:=d9 s.1 t.2
 have m2:=d9 s.2 t.1
 exact⟨by show rl (s.1-t.2)≤_;have:=hs.1;have:=ht.2;omega,by show rl (s.2-t.1)≤_;have:=hs.2;have:=ht.1;omega⟩
namespace Zq93
theorem cK {p q:Prop} (k:q) (e:p=q:=by simp only [e1,e2,e3,e4,p1,p2,p3,q1,q2,q3,l1,t0,t1,r1,r2,r3,r4,Nat.zero_add,Nat.reduceMul,Nat.reduceAdd,b1,b2,b3,b4,b5,b6,i1,i2,i3,i4,i5,i6,Nat.reduceBEq,List.set_cons_zero,List.set_cons_succ,Nat.reduceEqDiff,reduceIte,if_true,if_false,a8,a9,aC cW,aC dR,aC aD,aT,a6,LV.kill,bH];exact rfl):p:=e.mpr k
end Zq93
open Zq93 in
theorem qO (p q:V3) (R:Nat) (hR:R≤1000000000) (hp:fH R p) (hq:fH R q):aN Tryz.prog 198 [dG p,dG q] (dG (nG p q)):=by
 obtain⟨a1,a2,a3⟩:=hp
 obtain⟨y1,y2,y3⟩:=hq
 have m01:=bR p.x q.y
 have m02:=bR p.x q.z
 have m10:=bR p.y q.x
 have m12:=bR p.y q.z
 have m20:=bR p.z q.x
 have m21:=bR p.z q.y
 refine dJ Tryz.func198 (ht:=(fun r=>LV.ren_pure r _ (cW.pure _))) ?_
 refine qG ?_
 refine aK ?_
 refine bY ?_
 refine aY (b:=_) rfl (by decide) ?_
 refine fI ?_
 refine aB rfl (.bin rfl rfl (show dU .add .i64 0 1=some (.int .i64 ((1:Nat):Int)) from rfl)) ?_
 refine aB rfl (.bin rfl rfl (show dU .rem .i64 1 3=some (.int .i64 ((1:Nat):Int)) from rfl)) ?_
 refine bD ?_
 refine aB rfl (.bin rfl rfl (show dU .add .i64 0 2=some (.int .i64 ((2:Nat):Int)) from rfl)) ?_
 refine aB rfl (.bin rfl rfl (show dU .rem .i64 2 3=some (.int .i64 ((2:Nat):Int)) from rfl)) ?_
 refine cB ?_
 refine aP 17 (by decide +kernel) ?_
 refine dP ?_
 refine cp bI (dQ p.y q.z (by omega)) ?_
 refine bY ?_
 refine cp bI (dQ p.z q.y (by omega)) ?_
 refine cp bI (iX (p.y*q.z) (p.z*q.y) (by omega)) ?_
 refine cG ?_
 refine aK ?_
 refine bY ?_
 refine aY (b:=_) rfl (by decide) ?_
 refine fI ?_
 refine aB rfl (.bin rfl rfl (show dU .add .i64 1 1=some (.int .i64 ((2:Nat):Int)) from rfl)) ?_
 refine aB rfl (.bin rfl rfl (show dU .rem .i64 2 3=some (.int .i64 ((2:Nat):Int)) from rfl)) ?_
 refine bD ?_
 refine aB rfl (.bin rfl rfl (show dU .add .i64 1 2=some (.int .i64 ((3:Nat):Int)) from rfl)) ?_
 refine aB rfl (.bin rfl rfl (show dU .rem .i64 3 3=some (.int .i64 ((0:Nat):Int)) from rfl)) ?_
 refine cB ?_
 refine aP 17 (by decide +kernel) ?_
 refine dP ?_
 refine cp bI (dQ p.z q.x (by omega)) ?_
 refine bY ?_
 refine cp bI (dQ p.x q.z (by omega)) ?_
 refine cp bI (iX (p.z*q.x) (p.x*q.z) (by omega)) ?_
 refine cG ?_
 refine aK ?_
 refine bY ?_
 refine aY (b:=_) rfl (by decide) ?_
 refine fI ?_
 refine aB rfl (.bin rfl rfl (show dU .add .i64 2 1=some (.int .i64 ((3:Nat):Int)) from rfl)) ?_
 refine aB rfl (.bin rfl rfl (show dU .rem .i64 3 3=some (.int .i64 ((0:Nat):Int)) from rfl)) ?_
 refine bD ?_
 refine aB rfl (.bin rfl rfl (show dU .add .i64 2 2=some (.int .i64 ((4:Nat):Int)) from rfl)) ?_
 refine aB rfl (.bin rfl rfl (show dU .rem .i64 4 3=some (.int .i64 ((1:Nat):Int)) from rfl)) ?_
 refine cB ?_
 refine aP 17 (by decide +kernel) ?_
 refine dP ?_
 refine cp bI (dQ p.x q.y (by omega)) ?_
 refine bY ?_
 refine cp bI (dQ p.y q.x (by omega)) ?_
 refine cp bI (iX (p.x*q.y) (p.y*q.x) (by omega)) ?_
 refine cG ?_
 refine aK ?_
 refine bY ?_
 refine bO (b:=_) rfl (by decide) ?_
 refine cH ?_
 exact dE [] rfl rfl rfl cs (b7 cs rfl) kS (.pure pu)
namespace Zq26
theorem cK {p q:Prop} (k:q) (e:p=q:=by simp only [e1,e2,e3,e4,p1,p2,p3,q1,q2,q3,l1,t0,t1,r1,r2,r3,r4,Nat.zero_add,Nat.reduceMul,Nat.reduceAdd,b1,b2,b3,b4,b5,b6,i1,i2,i3,i4,i5,i6,Nat.reduceBEq,List.set_cons_zero,List.set_cons_succ,Nat.reduceEqDiff,reduceIte,if_true,if_false,a8,a9,aC cW,aC dR,aC aD,aT,a6,LV.kill,bH];exact rfl):p:=e.mpr k
end Zq26
open Zq26 in
theorem aEv (p q:V3) (R:Nat) (hR:R≤1000000000) (hp:fH R p) (hq:fH R q):aN Tryz.prog 71 [dG p,dG q] (dG (nG p q)):=by
 obtain⟨a1,a2,a3⟩:=hp
 obtain⟨y1,y2,y3⟩:=hq
 have m01:=bR p.x q.y
 have m02:=bR p.x q.z
 have m10:=bR p.y q.x
 have m12:=bR p.y q.z
 have m20:=bR p.z q.x
 have m21:=bR p.z q.y
 refine dJ Tryz.func71 (ht:=(fun r=>LV.ren_pure r _ (cW.pure _))) ?_
 refine qG ?_
 refine aK ?_
 refine dP ?_
 refine aY (b:=_) rfl (by decide) ?_
 refine dP ?_
 refine aB rfl (.bin rfl rfl (show dU .add .i64 0 1=some (.int .i64 ((1:Nat):Int)) from rfl)) ?_
 refine aB rfl (.bin rfl rfl (show dU .rem .i64 1 3=some (.int .i64 ((1:Nat):Int)) from rfl)) ?_
 refine bD ?_
 refine aB rfl (.bin rfl rfl (show dU .add .i64 0 2=some (.int .i64 ((2:Nat):Int)) from rfl)) ?_
 refine aB rfl (.bin rfl rfl (show dU .rem .i64 2 3=some (.int .i64 ((2:Nat):Int)) from rfl)) ?_
 refine cB ?_
 refine aP 17 (by decide +kernel) ?_
 refine dP ?_
 refine cp bI (pA p.y q.z (by omega)) ?_
 refine bY ?_
 refine cp bI (pA p.z q.y (by omega)) ?_
 refine cp bI (oT (p.y*q.z) (p.z*q.y) (by omega)) ?_
 refine cQ ?_
 refine aK ?_
 refine dP ?_
 refine aY (b:=_) rfl (by decide) ?_
 refine dP ?_
 refine aB rfl (.bin rfl rfl (show dU .add .i64 1 1=some (.int .i64 ((2:Nat):Int)) from rfl)) ?_
 refine aB rfl (.bin rfl rfl (show dU .rem .i64 2 3=some (.int .i64 ((2:Nat):Int)) from rfl)) ?_
 refine bD ?_
 refine aB rfl (.bin rfl rfl (show dU .add .i64 1 2=some (.int .i64 ((3:Nat):Int)) from rfl)) ?_
 refine aB rfl (.bin rfl rfl (show dU .rem .i64 3 3=some (.int .i64 ((0:Nat):Int)) from rfl)) ?_
 refine cB ?_
 refine aP 17 (by decide +kernel) ?_
 refine dP ?_
 refine cp bI (pA p.z q.x (by omega)) ?_
 refine bY ?_
 refine cp bI (pA p.x q.z (by omega)) ?_
 refine cp bI (oT (p.z*q.x) (p.x*q.z) (by omega)) ?_
 refine cQ ?_
 refine aK ?_
 refine dP ?_
 refine aY (b:=_) rfl (by decide) ?_
 refine dP ?_
 refine aB rfl (.bin rfl rfl (show dU .add .i64 2 1=some (.int .i64 ((3:Nat):Int)) from rfl)) ?_
 refine aB rfl (.bin rfl rfl (show dU .rem .i64 3 3=some (.int .i64 ((0:Nat):Int)) from rfl)) ?_
 refine bD ?_
 refine aB rfl (.bin rfl rfl (show dU .add .i64 2 2=some (.int .i64 ((4:Nat):Int)) from rfl)) ?_
 refine aB rfl (.bin rfl rfl (show dU .rem .i64 4 3=some (.int .i64 ((1:Nat):Int)) from rfl)) ?_
 refine cB ?_
 refine aP 17 (by decide +kernel) ?_
 refine dP ?_
 refine cp bI (pA p.x q.y (by omega)) ?_
 refine bY ?_
 refine cp bI (pA p.y q.x (by omega)) ?_
 refine cp bI (oT (p.x*q.y) (p.y*q.x) (by omega)) ?_
 refine cQ ?_
 refine aK ?_
 refine dP ?_
 refine bO (b:=_) rfl (by decide) ?_
 refine cH ?_
 exact dE [] rfl rfl rfl cs (b7 cs rfl) kS (.pure pu)
namespace Zq84
theorem cK {p q:Prop} (k:q) (e:p=q:=by simp only [e1,e2,e3,e4,p1,p2,p3,q1,q2,q3,l1,t0,t1,r1,r2,r3,r4,Nat.zero_add,Nat.reduceMul,Nat.reduceAdd,b1,b2,b3,b4,b5,b6,i1,i2,i3,i4,i5,i6,Nat.reduceBEq,List.set_cons_zero,List.set_cons_succ,Nat.reduceEqDiff,reduceIte,if_true,if_false,a8,a9,aC cW,aC dR,aC aD,aT,a6,LV.kill,bH];exact rfl):p:=e.mpr k
end Zq84
open Zq84 in
theorem aGU (s t:Rat × Rat) (R:Nat) (hR:R≤1000000000) (hs:iQ R s) (ht:iQ R t):aN Tryz.prog 187 [spL s,spL t] (spL (sbS s t)):=by
 obtain⟨a1,a2⟩:=hs
 obtain⟨y1,y2⟩:=ht
 refine dJ Tryz.func187 ?_
 refine eI ?_
 refine aP 11 (by decide +kernel) ?_
 refine cB ?_
 refine cp bI (iX s.1 t.2 (by omega)) ?_
 refine cB ?_
 refine cp bI (iX s.2 t.1 (by omega)) ?_
 refine dX ?_
 exact dE [] rfl rfl rfl (d8.csize _) (fN _) mH (.pure (d8.pure _))
def kx (d:Nat) (T:Rat) (inn:List Rat) (E:Rat):List Rat:=List.replicate (d+1) T++(inn++List.replicate (d+1) E)
structure inOK (d:Nat) (T:Rat) (inn:List Rat) (E:Rat):Prop where
 btw:∀ x∈inn,T<x∧x<E
 srt:∀ i,i+1<inn.length→inn.getD i 0≤inn.getD (i+1) 0
 tms:∀ x∈inn,sY inn x inn.length≤d
 len:inn.length≤2
 sz:∀ x∈inn,rl x≤64
namespace Zq9
theorem cK {p q:Prop} (k:q) (e:p=q:=by simp only [e1,e2,e3,e4,p1,p2,p3,q1,q2,q3,l1,t0,t1,r1,r2,r3,r4,Nat.zero_add,Nat.reduceMul,Nat.reduceAdd,b1,b2,b3,b4,b5,b6,i1,i2,i3,i4,i5,i6,Nat.reduceBEq,List.set_cons_zero,List.set_cons_succ,Nat.reduceEqDiff,reduceIte,if_true,if_false,a8,a9,aC cW,aC dR,aC aD,aT,a6,LV.kill,bH];exact rfl):p:=e.mpr k
end Zq9
open Zq9 in
theorem aHd (d:Nat) (kn:List Rat) (po:List PoR) (R:Nat) (hR:R≤1000000) (h:cvR po d R):aN Tryz.prog 45 [.agg [aG d,.list 3 (kn.map ratL),.list 12 (po.map eB)]] (bxL (bxP (po.map (·.p)))):=by
 have hl:=h.hl
 have hd:=h.hd
 have h6:=h.h6
 have hpb:∀ i,i<(po.map (·.p)).length→fH R ((po.map (·.p)).getD i default):=fun i hi=>by
  rw [List.length_map] at hi
  rw [aKe]
  exact(h.ok _ (jY hi)).1
 have hcp:LV.pure (.agg [aG d,.list 3 (kn.map ratL),.list 12 (po.map eB)])=true:=by simp [LV.pure,aV,aF aD,aF dR]
 refine dJ Tryz.func45 (ht:=(fun r=>LV.ren_pure r _ (bxE.pure _))) ?_
 refine eP ?_
 refine cp cS (aEt d kn po R hR h) ?_
 refine cp cS (aFs (po.map (·.p)) (by rw [List.length_map];omega) (by rw [List.length_map];omega) R hR hpb) ?_
 refine iR ?_
 exact dE [] rfl rfl rfl cs (b7 cs rfl) T97 (.pure pu)
end Go.Proofs.YtckppbhafancnaaGreat
end
section
set_option linter.unusedVariables false
set_option linter.unusedSimpArgs false
namespace Go.Lg
def k5:Op→Bool
 | .move _=>true
 | .pick ..=>true
 | .binOp ..=>true
 | .load ..=>true
 | .fieldAddr ..=>true
 | .indexAddr ..=>true
 | .call ⟨.builtin .len,_,_⟩=>true
 | _=>false
section
variable {P:Program} {H:cM} {ρ ρ':Operand→LV}
theorem OpP.cong {op:Op} {r:LV} (h:OpP P H ρ op r) (hp:k5 op=true) (hr:∀ x∈op.operands,ρ' x=ρ x):OpP P H ρ' op r:=by
 cases h with
 | move x=>rw [←hr x (by simp [Op.operands])];exact .move x
 | pick hc =>
  rename_i c x y t
  have e1:=hr x (by simp [Op.operands])
  have e2:=hr y (by simp [Op.operands])
  have:=OpP.pick (P:=P) (H:=H) (ρ:=ρ') (x:=x) (y:=y) ((hr _ (by simp [Op.operands])).trans hc)
  rw [e1,e2] at this
  exact this
 | bin hx hy h=>exact .bin ((hr _ (by simp [Op.operands])).trans hx) ((hr _ (by simp [Op.operands])).trans hy) h
 | sh hx hy h=>exact .sh ((hr _ (by simp [Op.operands])).trans hx) ((hr _ (by simp [Op.operands])).trans hy) h
 | beq hx hy hT=>exact .beq ((hr _ (by simp [Op.operands])).trans hx) ((hr _ (by simp [Op.operands])).trans hy) hT
 | bne hx hy hT=>exact .bne ((hr _ (by simp [Op.operands])).trans hx) ((hr _ (by simp [Op.operands])).trans hy) hT
 | addS hx hy h=>exact .addS ((hr _ (by simp [Op.operands])).trans hx) ((hr _ (by simp [Op.operands])).trans hy) h
 | eqS hx hy=>exact .eqS ((hr _ (by simp [Op.operands])).trans hx) ((hr _ (by simp [Op.operands])).trans hy)
 | eqN hx hy hT=>exact .eqN ((hr _ (by simp [Op.operands])).trans hx) ((hr _ (by simp [Op.operands])).trans hy) hT
 | eqNL hx hy hT=>exact .eqNL ((hr _ (by simp [Op.operands])).trans hx) ((hr _ (by simp [Op.operands])).trans hy) hT
 | eqA4 hx hy hT hE hs hd=>exact .eqA4 ((hr _ (by simp [Op.operands])).trans hx) ((hr _ (by simp [Op.operands])).trans hy) hT hE hs hd
 | fieldAddrB hq hT hr'=>exact .fieldAddrB ((hr _ (by simp [Op.operands])).trans hq) hT hr'
 | fieldAddrE hq hT hk=>exact .fieldAddrE ((hr _ (by simp [Op.operands])).trans hq) hT hk
 | loadB hq hT hc=>exact .loadB ((hr _ (by simp [Op.operands])).trans hq) hT hc
 | loadE hq hb hs hi hx hr' hT=>exact .loadE ((hr _ (by simp [Op.operands])).trans hq) hb hs hi hx hr' hT
 | idxAE hx hT hE hi h0 hm=>exact .idxAE ((hr _ (by simp [Op.operands])).trans hx) hT hE ((hr _ (by simp [Op.operands])).trans hi) h0 hm
 | idxAB hx hT hE hf hi h0 hr'=>exact .idxAB ((hr _ (by simp [Op.operands])).trans hx) hT hE hf ((hr _ (by simp [Op.operands])).trans hi) h0 hr'
 | idxL hx hT hE hi h0 hr' hc=>exact .idxL ((hr _ (by simp [Op.operands])).trans hx) hT hE ((hr _ (by simp [Op.operands])).trans hi) h0 hr' hc
 | idxR hx hT hE hi h0 hn=>exact .idxR ((hr _ (by simp [Op.operands])).trans hx) hT hE ((hr _ (by simp [Op.operands])).trans hi) h0 hn
 | lenL hx has hT=>exact .lenL ((hr _ (by simp [Op.operands,Call.operands])).trans hx) has hT
 | lenR hx has hT=>exact .lenR ((hr _ (by simp [Op.operands,Call.operands])).trans hx) has hT
 | lenN hx has hT=>exact .lenN ((hr _ (by simp [Op.operands,Call.operands])).trans hx) has hT
 | _=>first | (cases hp;done) | (simp [k5] at hp;done)
end
section
variable {P:Program} {ops:Array Oper}
end
theorem aF3 (L:St) {d e:Nat} (h:d≠e) (v r:LV):(L.put (some d) v).put (some e) r=(L.put (some e) r).put (some d) v:=by
 have:∀ t,((L.put (some d) v).put (some e) r).slot t=((L.put (some e) r).put (some d) v).slot t:=fun t=>by
  rw [bU,bU,bU,bU]
  by_cases h1:t=e
  ·rw [if_pos h1,if_neg (by omega),if_pos h1]
  ·rw [if_neg h1,if_neg h1]
 exact congrArg (fun f=>St.mk f L.heap) (funext this)
theorem jX (L:St) {d:Nat} {e:Option Nat} (h:e≠some d) (v r:LV):(L.put (some d) v).put e r=(L.put e r).put (some d) v:=by
 cases e with
 | none=>rfl
 | some e=>exact aF3 L (fun q=>h (by rw [q])) v r
section
variable {P:Program} {ops:Array Oper}
theorem aKE {L:St} {d:Nat} {v:LV} {o:Oper} (h:d∉o.looksAt ops):∀ x∈o.op.operands,(L.put (some d) v).ev x=L.ev x:=fun x hx=>by
 cases x with
 | tmp t =>
  have ht:t∈o.looksAt ops:=by
   unfold Oper.looksAt
   simp only [List.mem_append,List.mem_filterMap]
   exact .inl ⟨.tmp t,by simpa using hx,rfl⟩
  show (L.put (some d) v).slot t=L.slot t
  rw [bU,if_neg (fun q=>h (by rw [←q];exact ht))]
 | const v=>rfl
 | func f=>rfl
 | global f=>rfl
theorem jW {L:St} {d:Nat} {v:LV} {o:Oper} {res:Bool} (h:d∉o.looksAt ops) (hg:bS ops (L.put (some d) v) o res):bS ops L o res:=by
 unfold bS at hg ⊢
 cases hh:o.guard with
 | none=>rw [hh] at hg;exact hg
 | some pr =>
  obtain⟨j,want⟩:=pr
  rw [hh] at hg
  obtain⟨t,q1',q'⟩:=hg
  have hne:t≠d:=fun q=>h (by rw [←q];unfold Oper.looksAt;rw [hh];simp [q1'])
  have e1:(L.put (some d) v).slot t=L.slot t:=by rw [bU,if_neg hne]
  refine⟨t,q1',?_⟩
  show (∃ b,L.slot t=_∧_)∨(L.slot t=_∧_)
  rw [←e1]
  exact q'
theorem wW {f:Operand} {xs:Array Operand} {ats:Array TypeId} {x:Operand} (h:x∈xs.toList):x∈(Op.call ⟨.value f,xs,ats⟩).operands:=by
 have:=Array.mem_toList_iff.1 h
 simp [Op.operands,Call.operands,this]
end
end Go.Lg
end
section
set_option linter.unusedVariables false
set_option linter.unusedSimpArgs false
set_option maxHeartbeats 8000000
set_option maxRecDepth 100000
attribute [local irreducible] Go.Lg.opsL Go.Lg.wpL Go.Lg.thenL Go.Lg.blockL
namespace Go.Proofs.YtckppbhafancnaaGreat
open Go.Lg
def ksF (l:List Int) (j:Nat):Rat:=((1+nxV l j 3:Int):Rat)/((1+nxV l (tI l j) 2:Int):Rat)
def ksJ (l:List Int) (d:Nat) (k:List Rat) (j:Nat):Nat:=if k.length=d+1 then j else tI l j
def ksB (l:List Int) (d:Nat) (k:List Rat) (t:Rat) (j:Nat):Prop:=k.length=d+1∨0<nxV l j 3∨t=k.getD (k.length-d) 0
instance (l:List Int) (d:Nat) (k:List Rat) (t:Rat) (j:Nat):Decidable (ksB l d k t j):=by unfold ksB;infer_instance
def kiV (l:List Int) (d:Nat):Nat→List Rat→Rat→Nat→List Rat × Rat × Nat
 | 0,k,t,j=>(k,t,j)
 | n+1,k,t,j=>if ksB l d k t j then kiV l d n (k++[t+ksF l (ksJ l d k j)]) (t+ksF l (ksJ l d k j)) (tI l (tI l (ksJ l d k j))) else kiV l d n (k++[t]) t (ksJ l d k j)
structure kiI (l:List Int) (d N c:Nat) (K:List Rat) (t:Rat) (j:Nat) (R:List Rat × Rat × Nat):Prop where
 hj:j≤500
 hl:K.length+c=d+1+N
 ht:rl t+3*c≤1+3*N
 hK:∀ x∈K,rl x≤7
 hR:kiV l d c K t j=R
theorem aG9 {K:List Rat} {t:Rat} {R:Nat} (h:∀ x∈K,rl x≤R) (ht:rl t≤R):∀ x∈K++[t],rl x≤R:=fun x hx=>by
 rcases List.mem_append.1 hx with h1 | h1
 ·exact h x h1
 ·rw [List.mem_singleton.1 h1];exact ht
theorem aJX {l:List Int} {d j:Nat} {K:List Rat} (hl:l.length≤500) (hj:j≤500):ksJ l d K j≤500:=by
 unfold ksJ;split
 ·exact hj
 ·exact sW hl hj
theorem kiI.no {l:List Int} {d N c:Nat} {K:List Rat} {t:Rat} {j:Nat} {R:List Rat × Rat × Nat} (hl:l.length≤500) (hN:N≤2) (h:kiI l d N (c+1) K t j R) (hb:¬ksB l d K t j) :
  kiI l d N c (K++[t]) t (ksJ l d K j) R:=by
 have h2:=h.ht
 have h3:=h.hl
 have h4:=h.hR
 rw [kiV,if_neg hb] at h4
 exact⟨aJX hl h.hj,by simp;omega,by omega,aG9 h.hK (by omega),h4⟩
abbrev Sp:=Rat × Rat
abbrev gG:=List Sp × Nat × List Int
abbrev kH:=List Sp × List Sp × Nat × Nat
def pH (s:Sp):Rat:=(s.1+s.2)/2
def loS (s:Sp):Sp:=(s.1,pH s)
def hiS (s:Sp):Sp:=(pH s,s.2)
def xB (t:List Int):Nat→Nat
 | 0=>0
 | k+1=>if t.getD k 0<t.getD (xB t k) 0 then k else xB t k
theorem pI {t:List Int}:∀ k,k≤t.length→0<t.length→xB t k<t.length
 | 0,_,h=>h
 | k+1,h,h0=>by
   have:=pI k (by omega) h0
   unfold xB;split<;>omega
def lT (x:gG):Nat:=xB x.2.2 x.2.2.length
def aAu (x:gG) (s:Sp):gG:=(x.1.set (lT x) s,x.2.1+1,x.2.2.set (lT x) (x.2.2.getD (lT x) 0+1))
def loB (x:gG):gG:=aAu x (loS (x.1.getD (lT x) default))
def hiB (x:gG):gG:=aAu x (hiS (x.1.getD (lT x) default))
def aLz (l:List Sp) (w:Rat):Bool:=l.any fun s=>decide (w<s.2-s.1)
abbrev lS:=List Sp→List Sp→Bool × Nat × Nat
abbrev sC:=List gG × Nat × List kH
def iK (v:Bool × Nat × Nat):Nat:=if v.2.1=0 then 1 else v.2.1
def kV (v:Bool × Nat × Nat):Nat:=if v.2.1=0 then 0 else v.2.2
def yR (na:Nat) (x:gG) (v:Bool × Nat × Nat):kH:=(x.1.take na,x.1.drop na,iK v,kV v)
def xO (D:Nat) (wd:Rat) (x:gG) (v:Bool × Nat × Nat):Bool :=
 (decide (iK v=3∨iK v=4) && (decide (wd=0) || !aLz x.1 wd)) || decide (D≤x.2.1)
def jK (D W na:Nat) (wd:Rat) (lk:lS):sC→sC
 | ([],n,cs)=>([],n,cs)
 | (x :: st,n,cs) =>
  if W≤n then(st,n,cs++[yR na x (false,0,0)])
  else if (lk (x.1.take na) (x.1.drop na)).1 then(st,n+1,cs)
  else if xO D wd x (lk (x.1.take na) (x.1.drop na)) then(st,n+1,cs++[yR na x (lk (x.1.take na) (x.1.drop na))])
  else(loB x :: hiB x :: st,n+1,cs)
def aGM (D W na:Nat) (wd:Rat) (lk:lS):Nat→sC→sC
 | 0,s=>s
 | k+1,s=>aGM D W na wd lk k (jK D W na wd lk s)
def wgt (D:Nat) (x:gG):Nat:=2*2 ^ (D-x.2.1)-1
def nC (D:Nat) (st:List gG):Nat:=(st.map (wgt D)).sum
theorem qW (D:Nat) (x:gG):1≤wgt D x:=by
 unfold wgt
 have:=Nat.one_le_two_pow (n:=D-x.2.1)
 omega
theorem aAW {D:Nat} {x:gG} {s s':Sp} (h:x.2.1<D):wgt D (aAu x s)+wgt D (aAu x s')<wgt D x:=by
 simp only [wgt,aAu]
 have h1:=Nat.one_le_two_pow (n:=D-(x.2.1+1))
 have h2:2 ^ (D-x.2.1)=2*2 ^ (D-(x.2.1+1)):=by
  rw [show D-x.2.1=(D-(x.2.1+1))+1 by omega,Nat.pow_succ,Nat.mul_comm]
 omega
theorem aBp {D:Nat} {wd:Rat} {x:gG} {v:Bool × Nat × Nat} (h:xO D wd x v=false):x.2.1<D:=by
 unfold xO at h
 simp only [Bool.or_eq_false_iff,decide_eq_false_iff_not] at h
 omega
theorem uN {D W na:Nat} {wd:Rat} {lk:lS} {x:gG} {st:List gG} {n:Nat} {cs:List kH}:nC D (jK D W na wd lk (x :: st,n,cs)).1<nC D (x :: st):=by
 have hw:=qW D x
 have hmu:nC D (x :: st)=wgt D x+nC D st:=by simp [nC]
 rw [jK]
 split
 ·show nC D st<_;omega
 ·split
  ·show nC D st<_;omega
  ·split
   ·show nC D st<_;omega
   ·rename_i h
    have hd:=aBp (by simpa using h)
    have:=aAW (x:=x) (s:=loS (x.1.getD (lT x) default)) (s':=hiS (x.1.getD (lT x) default)) hd
    have e:nC D (loB x :: hiB x :: st)=wgt D (loB x)+(wgt D (hiB x)+nC D st):=by simp [nC]
    show nC D (loB x :: hiB x :: st)<_
    rw [e,hmu]
    unfold loB hiB
    omega
theorem aA2 {D W na:Nat} {wd:Rat} {lk:lS} {n:Nat} {cs:List kH}:∀ k,aGM D W na wd lk k ([],n,cs)=([],n,cs)
 | 0=>rfl
 | k+1=>by rw [aGM,jK,aA2 k]
def aA9 (D W na:Nat) (wd:Rat) (lk:lS) (s R:sC):Prop:=∃ k,nC D s.1≤k∧aGM D W na wd lk k s=R
theorem aA9.step {D W na:Nat} {wd:Rat} {lk:lS} {x:gG} {st:List gG} {n:Nat} {cs:List kH} {R:sC} (h:aA9 D W na wd lk (x :: st,n,cs) R) :
  aA9 D W na wd lk (jK D W na wd lk (x :: st,n,cs)) R:=by
 obtain⟨k,h1,h2⟩:=h
 have hmu:nC D (x :: st)=wgt D x+nC D st:=by simp [nC]
 have hw:=qW D x
 match k,h1,h2 with
 | 0,h1,_=>exact absurd (show nC D (x :: st)≤0 from h1) (by omega)
 | k+1,h1,h2 =>
  have:=uN (D:=D) (W:=W) (na:=na) (wd:=wd) (lk:=lk) (x:=x) (st:=st) (n:=n) (cs:=cs)
  exact⟨k,by have:nC D (x :: st)≤k+1:=h1;omega,h2⟩
theorem aA9.nil {D W na:Nat} {wd:Rat} {lk:lS} {n:Nat} {cs:List kH} {R:sC} (h:aA9 D W na wd lk ([],n,cs) R):R=([],n,cs):=by
 obtain⟨k,_,h2⟩:=h
 rw [aA2] at h2;exact h2.symm
def oO (D W na:Nat) (wd:Rat) (lk:lS) (s:sC):sC:=aGM D W na wd lk (nC D s.1) s
theorem pK (D W na:Nat) (wd:Rat) (lk:lS) (s:sC):aA9 D W na wd lk s (oO D W na wd lk s):=⟨_,Nat.le_refl _,rfl⟩
theorem wK {D W na:Nat} {wd:Rat} {lk:lS} (I:sC→Prop) (hI:∀ x st n cs,I (x :: st,n,cs)→I (jK D W na wd lk (x :: st,n,cs))) :
  ∀ (m:Nat) {s R:sC},nC D s.1≤m→I s→aA9 D W na wd lk s R→I R∧R.1=[]
 | m,([],n,cs),R,_,hs,h=>by rw [h.nil];exact⟨hs,rfl⟩
 | 0,(x :: st,n,cs),R,hm,_,_=>by
   have hmu:nC D (x :: st)=wgt D x+nC D st:=by simp [nC]
   have hw:=qW D x
   exact absurd (show nC D (x :: st)≤0 from hm) (by omega)
 | m+1,(x :: st,n,cs),R,hm,hs,h=>by
   have:=uN (D:=D) (W:=W) (na:=na) (wd:=wd) (lk:=lk) (x:=x) (st:=st) (n:=n) (cs:=cs)
   exact wK I hI m (by have:nC D (x :: st)≤m+1:=hm;omega) (hI x st n cs hs) h.step
def dN (a u:V3) (s:Rat):V3:=v3a a (pW s u)
def eR (a u:V3) (s t:Rat):List PoR:=[⟨dN a u s,1⟩,⟨dN a u t,1⟩]
theorem aG5 (a u:V3) (s:Rat):(dN a u s).x=a.x+s*u.x:=rfl
theorem aGT (a u:V3) (s:Rat):(dN a u s).y=a.y+s*u.y:=rfl
theorem aI4 (a u:V3) (s:Rat):(dN a u s).z=a.z+s*u.z:=rfl
theorem aKD (a u:V3) (s:Rat) (k:Nat):(dN a u s).at k=a.at k+s*u.at k:=by
 unfold V3.at
 split<;>rfl
theorem aFD (a u:V3) (s t:Rat) (k:Nat):f8 (eR a u s t) k=[a.at k+s*u.at k,a.at k+t*u.at k]:=by
 simp only [f8,eR,List.map_cons,List.map_nil,aKD,Rat.one_mul]
theorem aBa (a u:V3) (s t:Rat):fG (eR a u s t)=[1,1]:=rfl
theorem ch1:nP 1=[1,1]:=by decide +kernel
theorem ch0:nP 0=[1]:=by decide +kernel
theorem lo2 (p q t:Rat):x6 [p,q] t=[p,p+t*(q-p)]:=by
 simp only [x6,List.length_cons,List.length_nil,loF,stp]
 simp
 grind
theorem rC (p q t:Rat):uQ [p,q] t=[p+t*(q-p),q]:=by
 simp only [uQ,List.length_cons,List.length_nil,hiF,stp]
 simp
 grind
theorem aIY (p q x y:Rat) (h:x<1):dZ [p,q] x y=[p+x*(q-p),p+y*(q-p)]:=by
 unfold dZ
 rw [if_neg (by grind),rC,lo2]
 have h1:(1-x)*((y-x)/(1-x))=y-x:=by
  rw [Rat.mul_comm,Rat.div_mul_cancel (by grind)]
 congr 1
 congr 1
 have:(y-x)/(1-x)*(q-(p+x*(q-p)))=(1-x)*((y-x)/(1-x))*(q-p):=by grind
 rw [this,h1]
 grind
theorem aJ0 (a u:V3) (x y:Rat) (h:x<1):qK (eR a u 0 1) x y=eR a u x y:=by
 have hn:∀ k,dZ (f8 (eR a u 0 1) k) x y=[a.at k+x*u.at k,a.at k+y*u.at k]:=fun k=>by
  rw [aFD,aIY _ _ _ _ h]
  congr 1
  ·grind
  ·congr 1;grind
 have hw:dZ (fG (eR a u 0 1)) x y=[1,1]:=by
  rw [aBa,aIY _ _ _ _ h]
  congr 1
  ·grind
  ·congr 1;grind
 have hc:∀ (q:Rat),q/1=q:=fun q=>by grind
 have h0:cpQ (eR a u 0 1) x y 0=⟨dN a u x,1⟩:=by
  unfold cpQ
  rw [hn 0,hn 1,hn 2,hw]
  simp only [List.getD_cons_zero,hc]
  rfl
 have h1:cpQ (eR a u 0 1) x y 1=⟨dN a u y,1⟩:=by
  unfold cpQ
  rw [hn 0,hn 1,hn 2,hw]
  simp only [List.getD_cons_succ,List.getD_cons_zero,hc]
  rfl
 show [cpQ (eR a u 0 1) x y 0,cpQ (eR a u 0 1) x y 1]=_
 rw [h0,h1];rfl
theorem aLp (p q:Rat):gQ [p,q]=[q-p]:=by
 show [((1:Int):Rat)*(q-p)]=_
 rw [show ((1:Int):Rat)=1 from rfl,Rat.one_mul]
theorem aLr (x p q:Rat):kN [x] [p,q]=[x*p,x*q]:=by
 unfold kN
 simp only [List.length_cons,List.length_nil,Nat.reduceAdd,Nat.reduceSub,oA,vG,ch0,ch1]
 have e:List.range 2=[0,1]:=rfl
 simp only [e,List.map_cons,List.map_nil,List.getD_cons_zero,List.getD_cons_succ,List.replicate,List.set_cons_zero,List.set_cons_succ,Nat.zero_add]
 congr 1
 ·grind
 ·congr 1;grind
theorem aLV (x p q:Rat):kN [p,q] [x]=[p*x,q*x]:=by
 unfold kN
 simp only [List.length_cons,List.length_nil,Nat.reduceAdd,Nat.reduceSub,oA,vG,ch0,ch1]
 have e:List.range 2=[0,1]:=rfl
 simp only [e,List.map_cons,List.map_nil,List.getD_cons_zero,List.getD_cons_succ,List.replicate,List.set_cons_zero,List.set_cons_succ,Nat.zero_add,Nat.add_zero]
 congr 1
 ·grind
 ·congr 1;grind
theorem aCO (a u:V3) (s t:Rat) (k:Nat):nM (eR a u s t) k=[(t-s)*u.at k,(t-s)*u.at k]:=by
 unfold nM
 rw [aFD,aBa,aLp,aLp,aLr,aLV]
 show [_,_]=_
 congr 1
 ·grind
 ·congr 1;grind
theorem aIe (p:Rat):gS [p,p]=(p,p):=by
 simp only [gS,List.length_cons,List.length_nil,wR,nR,kC,jR]
 simp
theorem aBt (p q:Rat):muS (p,p) (q,q)=(p*q,p*q):=by
 simp only [muS,nR,kC,jR]
 simp
theorem aI1 (p q:Rat):quS (p,p) (q,q)=(p*(1/q),p*(1/q)):=by
 unfold quS rcS
 rw [show kC (1/q) (1/q)=1/q from by simp [kC],show jR (1/q) (1/q)=1/q from by simp [jR],aBt]
theorem sA (a u:V3) (s t:Rat) (h:s<t) (k:Nat):spW (t-s) (eR a u s t) k=(u.at k,u.at k):=by
 unfold spW
 rw [aCO,aBa,aIe,aIe,show wA (1,1)=(1,1) from by decide +kernel,aI1,aI1]
 have h1:(t-s)*(1/(t-s))=1:=by rw [Rat.mul_comm,Rat.div_mul_cancel (by grind)]
 have h2:(1:Rat)/1=1:=by decide +kernel
 have e:(t-s)*u.at k*(1/1)*(1/(t-s))=(t-s)*(1/(t-s))*u.at k:=by rw [h2];grind
 rw [e,h1,Rat.one_mul]
theorem ev2 (p t:Rat):qN [p,p] t=p:=by
 show (x6 [p,p] t).getD 1 0=p
 rw [lo2]
 show p+t*(p-p)=p
 grind
theorem aGB (a u:V3) (s t x:Rat) (h:s<t):aKJ (t-s) (eR a u s t) x=u:=by
 unfold aKJ
 rw [aBa,aCO,aCO,aCO,ev2,ev2,ev2,ev2]
 have h1:1/((t-s)*(1*1))*(t-s)=1:=by
  rw [Rat.one_mul,Rat.mul_one,Rat.div_mul_cancel (by grind)]
 have e:∀ q:Rat,1/((t-s)*(1*1))*((t-s)*q)=q:=fun q=>by rw [←Rat.mul_assoc,h1,Rat.one_mul]
 unfold pW
 simp only [e]
 rfl
def w5 (s:Rat × Rat):Rat × Rat:=(-s.2,-s.1)
def d2S (p q r s:Rat × Rat):Rat × Rat:=sbS (muS p s) (muS q r)
def meS (s t:Rat × Rat):Bool:=decide (jR s.1 t.1≤kC s.2 t.2)
def meB (a b:Bx3):Bool:=meS a.x b.x && meS a.y b.y && meS a.z b.z
def jN (a b c:V3):Rat:=1/gI a (nG b c)
def vJ (a b c:V3):V3:=⟨(pW (jN a b c) (nG b c)).x,(pW (jN a b c) (nG c a)).x,(pW (jN a b c) (nG a b)).x⟩
def vO (a b c:V3):V3:=⟨(pW (jN a b c) (nG b c)).y,(pW (jN a b c) (nG c a)).y,(pW (jN a b c) (nG a b)).y⟩
def iv2 (a b c:V3):V3:=⟨(pW (jN a b c) (nG b c)).z,(pW (jN a b c) (nG c a)).z,(pW (jN a b c) (nG a b)).z⟩
def jP (u v:V3):V3:=⟨u.x,(pW (-1) v).x,0⟩
def jQ (u v:V3):V3:=⟨u.y,(pW (-1) v).y,0⟩
def jO:V3:=⟨0,0,1⟩
def alS (r:V3) (l:List V3):Rat × Rat:=gS (l.map (gI r))
def xU (r:V3) (p q:List V3):Rat × Rat:=sbS (alS r p) (alS r q)
def opS (s t:Rat × Rat):Bool:=decide (dM s.1=dM s.2) && decide (dM t.1=dM t.2) && decide (dM s.1*dM t.1<0)
def aAD (u v:V3) (pc pd:List V3):Bool:=opS (xU (vJ (jP u v) (jQ u v) jO) [pc.getD 0 default] pd) (xU (vJ (jP u v) (jQ u v) jO) [pc.getD (pc.length-1) default] pd)
def aE2 (u v:V3) (pc pd:List V3):Bool:=opS (xU (vO (jP u v) (jQ u v) jO) pc [pd.getD 0 default]) (xU (vO (jP u v) (jQ u v) jO) pc [pd.getD (pd.length-1) default])
def kdC (sc sd:Bx3) (u v:V3) (pc pd:List V3):Nat :=
 if mV (d2S sc.x (w5 sd.x) sc.y (w5 sd.y)) 0 then 0 else if gI (jP u v) (nG (jQ u v) jO)=0 then 2 else if aAD u v pc pd && aE2 u v pc pd then 3 else 2
def jM (u v:V3):Rat:=u.x*v.y-u.y*v.x
theorem aBL (u v:V3):gI (jP u v) (nG (jQ u v) jO)=-jM u v:=by
 simp only [gI,nG,jP,jQ,jO,pW,jM];grind
theorem tW (u v:V3) (q:V3):gI (vJ (jP u v) (jQ u v) jO) q=jN (jP u v) (jQ u v) jO*(-v.y*q.x+v.x*q.y):=by
 simp only [gI,nG,jP,jQ,jO,pW,vJ];grind
theorem uC (u v:V3) (q:V3):gI (vO (jP u v) (jQ u v) jO) q=jN (jP u v) (jQ u v) jO*(-u.y*q.x+u.x*q.y):=by
 simp only [gI,nG,jP,jQ,jO,pW,vO];grind
def tA (a u p v:V3):Rat:=jN (jP u v) (jQ u v) jO*(-v.y*(p.x-a.x)+v.x*(p.y-a.y))
def tO (a u p v:V3):Rat:=jN (jP u v) (jQ u v) jO*(-u.y*(p.x-a.x)+u.x*(p.y-a.y))
section
variable {u v:V3} (h:jM u v≠0)
include h
theorem s4:jN (jP u v) (jQ u v) jO*-jM u v=1:=by
 unfold jN
 rw [aBL,Rat.div_mul_cancel (by grind)]
theorem zI (a p:V3) (s t:Rat):gI (vJ (jP u v) (jQ u v) jO) (dN a u s)-gI (vJ (jP u v) (jQ u v) jO) (dN p v t)=s-tA a u p v:=by
 rw [tW u v,tW u v]
 have e:=s4 h
 unfold tA
 simp only [aG5,aGT]
 unfold jM at e
 have:jN (jP u v) (jQ u v) jO*(-v.y*(a.x+s*u.x)+v.x*(a.y+s*u.y))-jN (jP u v) (jQ u v) jO*(-v.y*(p.x+t*v.x)+v.x*(p.y+t*v.y))
   = s*(jN (jP u v) (jQ u v) jO*-(u.x*v.y-u.y*v.x))-jN (jP u v) (jQ u v) jO*(-v.y*(p.x-a.x)+v.x*(p.y-a.y)):=by grind
 rw [this,e,Rat.mul_one]
theorem yO (a p:V3) (s t:Rat):gI (vO (jP u v) (jQ u v) jO) (dN a u s)-gI (vO (jP u v) (jQ u v) jO) (dN p v t)=t-tO a u p v:=by
 rw [uC u v,uC u v]
 have e:=s4 h
 unfold tO
 simp only [aG5,aGT]
 unfold jM at e
 have:jN (jP u v) (jQ u v) jO*(-u.y*(a.x+s*u.x)+u.x*(a.y+s*u.y))-jN (jP u v) (jQ u v) jO*(-u.y*(p.x+t*v.x)+u.x*(p.y+t*v.y))
   = t*(jN (jP u v) (jQ u v) jO*-(u.x*v.y-u.y*v.x))-jN (jP u v) (jQ u v) jO*(-u.y*(p.x-a.x)+u.x*(p.y-a.y)):=by grind
 rw [this,e,Rat.mul_one]
end
theorem aLh (p:Rat):gS [p]=(p,p):=by
 simp only [gS,List.length_cons,List.length_nil,wR,nR,kC,jR]
 simp
theorem aJa (x y:Rat):opS (x,x) (y,y)=decide ((x<0∧0<y)∨(0<x∧y<0)):=by
 unfold opS
 simp only [decide_true,Bool.true_and]
 congr 1
 apply propext
 unfold dM
 rcases(show x<0∨x=0∨0<x by grind) with hx | hx | hx<;>rcases(show y<0∨y=0∨0<y by grind) with hy | hy | hy
 all_goals first | (subst hx;simp;grind) | (subst hy;simp;grind) | (have e1:¬x=0:=(by grind);have e2:¬y=0:=(by grind);simp [hx,hy,e1,e2];grind) | grind
theorem aLo (a u p v:V3) (s t:Sp) (hs:s.1<s.2) (ht:t.1<t.2) :
  kdC (gF (s.2-s.1) (eR a u s.1 s.2)) (gF (t.2-t.1) (eR p v t.1 t.2)) u v [dN a u s.1,dN a u s.2] [dN p v t.1,dN p v t.2] =
   if jM u v=0 then 0 else if s.1<tA a u p v∧tA a u p v<s.2∧t.1<tO a u p v∧tO a u p v<t.2 then 3 else 2:=by
 have hx:∀ k,spW (s.2-s.1) (eR a u s.1 s.2) k=(u.at k,u.at k):=sA a u s.1 s.2 hs
 have hy:∀ k,spW (t.2-t.1) (eR p v t.1 t.2) k=(v.at k,v.at k):=sA p v t.1 t.2 ht
 have hng:∀ q:Rat,w5 (q,q)=(-q,-q):=fun _=>rfl
 have hd:d2S (gF (s.2-s.1) (eR a u s.1 s.2)).x (w5 (gF (t.2-t.1) (eR p v t.1 t.2)).x) (gF (s.2-s.1) (eR a u s.1 s.2)).y (w5 (gF (t.2-t.1) (eR p v t.1 t.2)).y)=(-jM u v,-jM u v):=by
  unfold gF
  simp only [hx,hy,hng]
  unfold d2S
  rw [aBt,aBt]
  show (_,_)=_
  have e:u.at 0*-v.at 1 - -v.at 0*u.at 1=-jM u v:=by
   show u.x*-v.y - -v.x*u.y=-(u.x*v.y-u.y*v.x);grind
  rw [←e]
 unfold kdC
 rw [hd,aBL]
 by_cases hc:jM u v=0
 ·rw [if_pos hc,hc]
  exact if_pos (by decide +kernel)
 ·have hh:mV (-jM u v,-jM u v) 0=false:=aLl (by grind)
  rw [hh,if_neg hc,if_neg (by decide),if_neg (by grind)]
  have h0:∀ x,xU (vJ (jP u v) (jQ u v) jO) [dN a u x] [dN p v t.1,dN p v t.2]=(x-tA a u p v,x-tA a u p v):=fun x=>by
   have e1:=zI hc a p x t.1
   have e2:=zI hc a p x t.2
   have e3:gI (vJ (jP u v) (jQ u v) jO) (dN p v t.2)=gI (vJ (jP u v) (jQ u v) jO) (dN p v t.1):=by grind
   unfold xU alS
   simp only [List.map_cons,List.map_nil]
   rw [e3,aLh,aIe]
   show (_,_)=_
   rw [←e1]
  have h1:∀ y,xU (vO (jP u v) (jQ u v) jO) [dN a u s.1,dN a u s.2] [dN p v y]=(y-tO a u p v,y-tO a u p v):=fun y=>by
   have e1:=yO hc a p s.1 y
   have e2:=yO hc a p s.2 y
   have e3:gI (vO (jP u v) (jQ u v) jO) (dN a u s.2)=gI (vO (jP u v) (jQ u v) jO) (dN a u s.1):=by grind
   unfold xU alS
   simp only [List.map_cons,List.map_nil]
   rw [e3,aLh,aIe]
   show (_,_)=_
   rw [←e1]
  unfold aAD aE2
  simp only [List.getD_cons_zero,List.length_cons,List.length_nil,Nat.reduceAdd,Nat.reduceSub,List.getD_cons_succ,h0,h1,aJa]
  rw [←Bool.decide_and]
  by_cases hk:s.1<tA a u p v∧tA a u p v<s.2∧t.1<tO a u p v∧tO a u p v<t.2
  ·rw [if_pos hk,if_pos (by rw [decide_eq_true_iff];grind)]
  ·rw [if_neg hk,if_neg (by rw [decide_eq_true_iff];grind)]
def rZ (n:Nat) (q:Rat):Prop:=∃ z:Int,q=(z:Rat)/((2 ^ n:Nat):Int)
theorem yS (n:Nat):(0:Rat)<((2 ^ n:Nat):Int):=by
 have:=Nat.one_le_two_pow (n:=n)
 exact Rat.intCast_pos.2 (by omega)
theorem aBe (n:Nat):(((2 ^ (n+1):Nat):Int):Rat)=((2 ^ n:Nat):Int)*2:=by
 rw [Nat.pow_succ];push_cast;rfl
theorem rZ.mul {n:Nat} {q:Rat} (h:rZ n q):∃ z:Int,q*((2 ^ n:Nat):Int)=z:=by
 obtain⟨z,rfl⟩:=h
 exact⟨z,Rat.div_mul_cancel (by have:=yS n;grind)⟩
theorem rZ.of {n:Nat} {q:Rat} {z:Int} (h:q*((2 ^ n:Nat):Int)=z):rZ n q:=⟨z,by
 have:=yS n
 rw [←h,Rat.mul_div_cancel (by grind)]⟩
theorem rZ.succ {n:Nat} {q:Rat} (h:rZ n q):rZ (n+1) q:=by
 obtain⟨z,e⟩:=h.mul
 refine rZ.of (z:=z*2) ?_
 rw [aBe,←Rat.mul_assoc,e];push_cast;rfl
theorem rZ.md {n:Nat} {p q:Rat} (hp:rZ n p) (hq:rZ n q):rZ (n+1) ((p+q)/2):=by
 obtain⟨z,e⟩:=hp.mul
 obtain⟨y,f⟩:=hq.mul
 refine rZ.of (z:=z+y) ?_
 rw [aBe]
 have h2:(p+q)/2*2=p+q:=Rat.div_mul_cancel (by decide)
 have:(p+q)/2*(((2 ^ n:Nat):Int)*2:Rat)=(p+q)/2*2*((2 ^ n:Nat):Int):=by grind
 rw [this,h2]
 push_cast
 push_cast at e f
 rw [←e,←f];grind
theorem rZ.sub {n:Nat} {p q:Rat} (hp:rZ n p) (hq:rZ n q):rZ n (p-q):=by
 obtain⟨z,e⟩:=hp.mul
 obtain⟨y,f⟩:=hq.mul
 refine rZ.of (z:=z-y) ?_
 push_cast
 push_cast at e f
 rw [←e,←f];grind
theorem aCG (z:Int):rZ 0 (z:Rat):=⟨z,by
 have:(((2 ^ 0:Nat):Int):Rat)=1:=rfl
 rw [this];grind⟩
theorem rZ.le {n m:Nat} {q:Rat} (h:rZ n q) (hm:n≤m):rZ m q:=by
 induction m with
 | zero =>
      obtain rfl:n=0:=by omega
      exact h
 | succ m ih =>
  rcases Nat.lt_or_ge n (m+1) with g | g
  ·exact(ih (by omega)).succ
  ·obtain rfl:n=m+1:=by omega
   exact h
theorem rZ.rl {n:Nat} {q:Rat} (h:rZ n q) (hn:n≤24) (h1:-64≤q) (h2:q≤64):Go.Lg.rl q≤1:=by
 obtain⟨z,e⟩:=h.mul
 have hp:=yS n
 have hpn:2 ^ n≤2 ^ 24:=Nat.pow_le_pow_right (by decide) hn
 have hz1:z≤64*((2 ^ n:Nat):Int):=by
  have:(z:Rat)≤((64*((2 ^ n:Nat):Int):Int):Rat):=by
   rw [←e];rw [Rat.intCast_mul]
   exact Rat.mul_le_mul_of_nonneg_right h2 (Rat.le_of_lt hp)
  exact Rat.intCast_le_intCast.1 this
 have hz2:-64*((2 ^ n:Nat):Int)≤z:=by
  have:((-64*((2 ^ n:Nat):Int):Int):Rat)≤(z:Rat):=by
   rw [←e];rw [Rat.intCast_mul]
   exact Rat.mul_le_mul_of_nonneg_right h1 (Rat.le_of_lt hp)
  exact Rat.intCast_le_intCast.1 this
 have:q=(z:Rat)/((2 ^ n:Nat):Int):=by rw [←e,Rat.mul_div_cancel (by grind)]
 rw [this]
 exact rQ (by omega) (by omega)
def kI (a u p v:V3):lS:=fun A B =>
 if meB (bxP [dN a u (A.getD 0 default).1,dN a u (A.getD 0 default).2]) (bxP [dN p v (B.getD 0 default).1,dN p v (B.getD 0 default).2]) then
  (false,(if jM u v=0 then 0 else if (A.getD 0 default).1<tA a u p v∧tA a u p v<(A.getD 0 default).2∧(B.getD 0 default).1<tO a u p v∧tO a u p v<(B.getD 0 default).2 then 3 else 2),0)
 else(true,0,0)
def dF:Sp:=(0,1)
def rB:gG:=([dF,dF],0,[0,0])
section
variable {a u p v:V3}
theorem aJi (a u p v:V3):tA a u p v=-(jN (jP u v) (jQ u v) jO*jM v (iE a p)):=by
 simp only [tA,jM,iE];grind
theorem aJb (a u p v:V3):tO a u p v=jN (jP u v) (jQ u v) jO*jM u (iE p a):=by
 simp only [tO,jM,iE];grind
theorem aOo (h:jM u v≠0):jN (jP u v) (jQ u v) jO*jM v (iE (v3a a u) p)=1-tA a u p v:=by
 have e:=s4 h
 rw [aJi]
 have:jM v (iE (v3a a u) p)=jM v (iE a p)+-jM u v:=by simp only [jM,iE,v3a];grind
 rw [this,Rat.mul_add,e];grind
theorem aNN (h:jM u v≠0):jN (jP u v) (jQ u v) jO*jM u (iE (v3a p v) a)=tO a u p v-1:=by
 have e:=s4 h
 rw [aJb]
 have:jM u (iE (v3a p v) a)=jM u (iE p a) - -jM u v:=by simp only [jM,iE,v3a];grind
 rw [this]
 have:jN (jP u v) (jQ u v) jO*(jM u (iE p a) - -jM u v)=jN (jP u v) (jQ u v) jO*jM u (iE p a)-jN (jP u v) (jQ u v) jO*-jM u v:=by grind
 rw [this,e]
theorem aGc (x y:Rat):dM x*dM y<0↔(x<0∧0<y)∨(0<x∧y<0):=by
 have:=aJa x y
 unfold opS at this
 simp only [decide_true,Bool.true_and] at this
 rw [decide_eq_decide] at this
 exact this
theorem xZ {f x y:Rat} (hf:f≠0):((x<0∧0<y)∨(0<x∧y<0))↔((f*x<0∧0<f*y)∨(0<f*x∧f*y<0)):=by
 have hneg:∀ z:Rat,0<f→(0<f*z↔0<z)∧(f*z<0↔z<0):=fun z hf0=>by
  rcases(show z<0∨z=0∨0<z by grind) with hz | hz | hz
  ·have:=Rat.mul_pos hf0 (show 0 < -z by grind)
   constructor<;>constructor<;>intro _<;>grind
  ·subst hz;rw [Rat.mul_zero];simp
  ·have:=Rat.mul_pos hf0 hz
   constructor<;>constructor<;>intro _<;>grind
 have hpos:∀ z:Rat,f<0→(0<f*z↔z<0)∧(f*z<0↔0<z):=fun z hf0=>by
  rcases(show z<0∨z=0∨0<z by grind) with hz | hz | hz
  ·have:=Rat.mul_pos (show 0 < -f by grind) (show 0 < -z by grind)
   constructor<;>constructor<;>intro _<;>grind
  ·subst hz;rw [Rat.mul_zero];simp
  ·have:=Rat.mul_pos (show 0 < -f by grind) hz
   constructor<;>constructor<;>intro _<;>grind
 rcases(show f<0∨0<f by grind) with h | h
 ·rw [(hpos x h).1,(hpos x h).2,(hpos y h).1,(hpos y h).2]
  constructor<;>intro g<;>rcases g with g | g
  ·exact .inr g
  ·exact .inl g
  ·exact .inr g
  ·exact .inl g
 ·rw [(hneg x h).1,(hneg x h).2,(hneg y h).1,(hneg y h).2]
def nZ (a u p v:V3):Prop:=dM (jM u (iE p a))*dM (jM u (iE (v3a p v) a))<0∧dM (jM v (iE a p))*dM (jM v (iE (v3a a u) p))<0
theorem xX:nZ a u p v↔jM u v≠0∧0<tA a u p v∧tA a u p v<1∧0<tO a u p v∧tO a u p v<1:=by
 unfold nZ
 rw [aGc,aGc]
 by_cases h:jM u v=0
 ·refine⟨fun g=>?_,fun g=>absurd h g.1⟩
  have:jM u (iE (v3a p v) a)=jM u (iE p a)+jM u v:=by simp only [jM,iE,v3a];grind
  rw [this,h,Rat.add_zero] at g
  grind
 ·have hf:jN (jP u v) (jQ u v) jO≠0:=fun e=>by have:=s4 h;rw [e,Rat.zero_mul] at this;exact absurd this (by decide)
  rw [xZ hf (x:=jM u (iE p a)),xZ hf (x:=jM v (iE a p)),aNN h,aOo h,←aJb]
  have e3:jN (jP u v) (jQ u v) jO*jM v (iE a p)=-tA a u p v:=by rw [aJi];grind
  rw [e3]
  constructor
  ·rintro⟨g1,g2⟩;refine⟨h,?_⟩;grind
  ·rintro⟨_,g⟩;constructor<;>grind
theorem aHa (h:nZ a u p v) (ha:a.z=0) (hu:u.z=0) (hp:p.z=0) (hv:v.z=0):kI a u p v [dF] [dF]=(false,3,0):=by
 obtain⟨h0,h1,h2,h3,h4⟩:=xX.1 h
 have hm:∀ x y:Rat,kC x y≤x∧kC x y≤y∧x≤jR x y∧y≤jR x y:=fun x y=>by unfold kC jR;refine⟨?_,?_,?_,?_⟩<;>split<;>grind
 have hin:∀ x y s:Rat,0<s→s<1→kC (x+0*y) (x+1*y)≤x+s*y∧x+s*y≤jR (x+0*y) (x+1*y):=fun x y s hs0 hs1=>by
  obtain⟨m1,m2,m3,m4⟩:=hm (x+0*y) (x+1*y)
  rcases(show y<0∨0≤y by grind) with hy | hy
  ·have k1:=Rat.mul_pos hs0 (show 0 < -y by grind)
   have k2:=Rat.mul_pos (show 0<1-s by grind) (show 0 < -y by grind)
   constructor<;>grind
  ·have k1:=Rat.mul_nonneg (Rat.le_of_lt hs0) hy
   have k2:=Rat.mul_nonneg (show 0≤1-s by grind) hy
   constructor<;>grind
 have hmx:∀ x y z w:Rat,x≤w→y≤w→x≤z→y≤z→jR x y≤kC z w:=fun x y z w _ _ _ _=>by unfold kC jR;split<;>split<;>grind
 have hr:=zI h0 a p (tA a u p v) (tO a u p v)
 have hr1:=yO h0 a p (tA a u p v) (tO a u p v)
 rw [tW,tW] at hr
 rw [uC,uC] at hr1
 have hf:=s4 h0
 have hX:a.x+tA a u p v*u.x=p.x+tO a u p v*v.x∧a.y+tA a u p v*u.y=p.y+tO a u p v*v.y:=by
  simp only [aG5,aGT] at hr hr1
  generalize jN (jP u v) (jQ u v) jO=f at hr hr1 hf
  generalize a.x+tA a u p v*u.x=A at hr hr1 ⊢
  generalize a.y+tA a u p v*u.y=B at hr hr1 ⊢
  generalize p.x+tO a u p v*v.x=C at hr hr1 ⊢
  generalize p.y+tO a u p v*v.y=D at hr hr1 ⊢
  have q0:f*(-v.y*(A-C)+v.x*(B-D))=0:=by grind
  have q1:f*(-u.y*(A-C)+u.x*(B-D))=0:=by grind
  have hfne:f≠0:=fun e=>by rw [e,Rat.zero_mul] at hf;exact absurd hf (by decide)
  have z0:-v.y*(A-C)+v.x*(B-D)=0:=by
   rcases Rat.mul_eq_zero.1 q0 with e | e
   ·exact absurd e hfne
   ·exact e
  have z1:-u.y*(A-C)+u.x*(B-D)=0:=by
   rcases Rat.mul_eq_zero.1 q1 with e | e
   ·exact absurd e hfne
   ·exact e
  have y0:jM u v*(A-C)=0:=by unfold jM;grind
  have y1:jM u v*(B-D)=0:=by unfold jM;grind
  constructor
  ·rcases Rat.mul_eq_zero.1 y0 with e | e
   ·exact absurd e h0
   ·grind
  ·rcases Rat.mul_eq_zero.1 y1 with e | e
   ·exact absurd e h0
   ·grind
 have hM:meB (bxP [dN a u 0,dN a u 1]) (bxP [dN p v 0,dN p v 1])=true:=by
  have gx:=hin a.x u.x _ h1 h2
  have gy:=hin a.y u.y _ h1 h2
  have kx:=hin p.x v.x _ h3 h4
  have ky:=hin p.y v.y _ h3 h4
  unfold meB meS
  rw [decide_eq_true,decide_eq_true,decide_eq_true]
  ·rfl
  ·show jR (kC (a.z+0*u.z) (a.z+1*u.z)) (kC (p.z+0*v.z) (p.z+1*v.z))≤kC (jR (a.z+0*u.z) (a.z+1*u.z)) (jR (p.z+0*v.z) (p.z+1*v.z))
   rw [ha,hu,hp,hv];decide +kernel
  ·show jR (kC (a.y+0*u.y) (a.y+1*u.y)) (kC (p.y+0*v.y) (p.y+1*v.y))≤kC (jR (a.y+0*u.y) (a.y+1*u.y)) (jR (p.y+0*v.y) (p.y+1*v.y))
   exact hmx _ _ _ _ (by grind) (by grind) (by grind) (by grind)
  ·show jR (kC (a.x+0*u.x) (a.x+1*u.x)) (kC (p.x+0*v.x) (p.x+1*v.x))≤kC (jR (a.x+0*u.x) (a.x+1*u.x)) (jR (p.x+0*v.x) (p.x+1*v.x))
   exact hmx _ _ _ _ (by grind) (by grind) (by grind) (by grind)
 unfold kI
 simp only [List.getD_cons_zero]
 rw [show dF=((0,1):Sp) from rfl,if_pos hM,if_neg h0,if_pos ⟨h1,h2,h3,h4⟩]
end
theorem aEu {a u p v:V3} (h:nZ a u p v) (ha:a.z=0) (hu:u.z=0) (hp:p.z=0) (hv:v.z=0) (D W:Nat) (hW:0<W):oO D W 1 0 (kI a u p v) ([rB],0,[])=([],1,[([dF],[dF],3,0)]):=by
 have hl:=aHa h ha hu hp hv
 have hE:=pK D W 1 0 (kI a u p v) ([rB],0,[])
 have hs:jK D W 1 0 (kI a u p v) ([rB],0,[])=([],1,[([dF],[dF],3,0)]):=by
  rw [jK,if_neg (by omega)]
  simp only [rB,List.take_succ_cons,List.take_zero,List.drop_succ_cons,List.drop_zero,hl]
  rw [if_neg (by decide),if_pos (by unfold xO;simp [iK])]
  rfl
 have:=hE.step
 rw [hs] at this
 exact this.nil
def aDR (x:gG):Prop:=∃ s t:Sp,x.1=[s,t]∧x.2.2.length=2∧(0≤s.1∧s.1≤1∧0≤s.2∧s.2≤1)∧(0≤t.1∧t.1≤1∧0≤t.2∧t.2≤1)
theorem x9 {x:gG} (h:aDR x):aDR (loB x)∧aDR (hiB x):=by
 obtain⟨s,t,e,hl,hs,ht⟩:=h
 have hmd:∀ q:Sp,(0≤q.1∧q.1≤1∧0≤q.2∧q.2≤1)→0≤pH q∧pH q≤1:=fun q hq=>by
  unfold pH
  have:(q.1+q.2)/2*2=q.1+q.2:=Rat.div_mul_cancel (by decide)
  constructor<;>grind
 have ha:lT x=0∨lT x=1:=by
  have:=pI (t:=x.2.2) x.2.2.length (Nat.le_refl _) (by omega)
  unfold lT;omega
 have m1:=hmd s hs
 have m2:=hmd t ht
 unfold loB hiB aAu
 rcases ha with g | g
 ·rw [g,e]
  exact⟨⟨loS s,t,rfl,by simpa using hl,⟨hs.1,hs.2.1,m1.1,m1.2⟩,ht⟩,⟨hiS s,t,rfl,by simpa using hl,⟨m1.1,m1.2,hs.2.2.1,hs.2.2.2⟩,ht⟩⟩
 ·rw [g,e]
  exact⟨⟨s,loS t,rfl,by simpa using hl,hs,⟨ht.1,ht.2.1,m2.1,m2.2⟩⟩,⟨s,hiS t,rfl,by simpa using hl,hs,⟨m2.1,m2.2,ht.2.2.1,ht.2.2.2⟩⟩⟩
theorem aIp {a u p v:V3} (h:¬nZ a u p v) (D W:Nat):∀ c∈(oO D W 1 0 (kI a u p v) ([rB],0,[])).2.2,c.2.2.1≠3:=by
 have hk:∀ x,aDR x→iK (kI a u p v (x.1.take 1) (x.1.drop 1))≠3:=fun x hx=>by
  obtain⟨s,t,e,hl,hs,ht⟩:=hx
  rw [e]
  unfold iK kI
  simp only [List.take_succ_cons,List.take_zero,List.drop_succ_cons,List.drop_zero,List.getD_cons_zero]
  split
  ·by_cases hc:jM u v=0
   ·simp [hc]
   ·rw [if_neg hc]
    by_cases hg:s.1<tA a u p v∧tA a u p v<s.2∧t.1<tO a u p v∧tO a u p v<t.2
    ·refine absurd (xX.2 ⟨hc,?_⟩) h
     grind
    ·rw [if_neg hg];decide
  ·decide
 have:=(wK (D:=D) (W:=W) (na:=1) (wd:=0) (lk:=kI a u p v) (fun s=>(∀ x∈s.1,aDR x)∧∀ c∈s.2.2,c.2.2.1≠3) (fun x st n cs hI=>by
  obtain⟨i1,i2⟩:=hI
  have hx:=i1 x (by simp)
  have hst:∀ y∈st,aDR y:=fun y hy=>i1 y (by simp [hy])
  rw [jK]
  split
  ·refine⟨hst,fun c hc=>?_⟩
   rcases List.mem_append.1 hc with hc | hc
   ·exact i2 c hc
   ·simp only [List.mem_singleton] at hc;subst hc;show (1:Nat)≠3;decide
  ·split
   ·exact⟨hst,i2⟩
   ·split
    ·refine⟨hst,fun c hc=>?_⟩
     rcases List.mem_append.1 hc with hc | hc
     ·exact i2 c hc
     ·simp only [List.mem_singleton] at hc;subst hc;exact hk x hx
    ·refine⟨fun y hy=>?_,i2⟩
     simp only [List.mem_cons] at hy
     rcases hy with rfl | rfl | hy
     ·exact(x9 hx).1
     ·exact(x9 hx).2
     ·exact hst y hy) _ (Nat.le_refl _) (s:=([rB],0,[])) ⟨fun x hx=>by
      simp only [List.mem_singleton] at hx;subst hx
      exact⟨dF,dF,rfl,rfl,by decide +kernel,by decide +kernel⟩,fun c hc=>by simp at hc⟩ (pK D W 1 0 (kI a u p v) ([rB],0,[]))).1
 exact this.2
def jS (x:gG):LV:=.agg [.list 6 (x.1.map spL),aG x.2.1,.list 1 (x.2.2.map dS)]
def jE (c:kH):LV:=.agg [.list 6 (c.1.map spL),.list 6 (c.2.1.map spL),aG c.2.2.1,aG c.2.2.2]
def vdL (v:Bool × Nat × Nat):LV:=.agg [.v (.bool v.1),aG v.2.1,aG v.2.2]
def prW (d w:Nat) (wd:Rat):LV:=.agg [aG d,aG w,ratL wd]
theorem gW (x:gG):(jS x).pure=true:=by simp [jS,LV.pure,aV,aF d8,aF mK]
theorem sE (c:kH):(jE c).pure=true:=by simp [jE,LV.pure,aV,aF d8]
theorem aF4 (v:Bool × Nat × Nat):(vdL v).pure=true:=by simp [vdL,LV.pure,aV]
theorem aGy (d w:Nat) (wd:Rat):(prW d w wd).pure=true:=by simp [prW,LV.pure,aV,aD.pure]
theorem aIN (x:gG):(jS x).csize=3:=rfl
theorem tR (c:kH):(jE c).csize=4:=rfl
theorem boxE:EncOK jS 3 true:=⟨aIN,fun _=>rfl,gW⟩
theorem aEj:EncOK jE 4 true:=⟨tR,fun _=>rfl,sE⟩
theorem sR (l:List kH):aV (l.map jE)=true:=aF aEj l
structure LookOK (P:Program) (f:Nat) (cap:List LV) (D na n:Nat) (lk:lS) (I:gG→Prop):Prop where
 len:∀ x,I x→x.1.length=n∧x.2.2.length=n
 tm:∀ x,I x→∀ t∈x.2.2,0≤t∧t≤1000
 dep:∀ x,I x→x.2.1≤D
 sp:∀ x,I x→∀ s∈x.1,iQ 1000 s∧s.1≤s.2
 half:∀ x,I x→x.2.1<D→I (loB x)∧I (hiB x)
 look:∀ x,I x→aN P f ([.list 6 ((x.1.take na).map spL),.list 6 ((x.1.drop na).map spL)]++cap) (vdL (lk (x.1.take na) (x.1.drop na)))
 kd:∀ x,I x→(lk (x.1.take na) (x.1.drop na)).2.1≤4∧(lk (x.1.take na) (x.1.drop na)).2.2≤4
def w7 (n:Nat) (s:Sp):Prop:=rZ n s.1∧rZ n s.2∧0≤s.1∧s.1<s.2∧s.2≤1
def pY (D:Nat) (x:gG):Prop:=∃ (s t:Sp) (i j:Int),x.1=[s,t]∧x.2.2=[i,j]∧(0≤i∧i≤x.2.1∧0≤j∧j≤x.2.1)∧x.2.1≤D∧w7 x.2.1 s∧w7 x.2.1 t
theorem w7.succ {n:Nat} {s:Sp} (h:w7 n s):w7 (n+1) s:=⟨h.1.succ,h.2.1.succ,h.2.2⟩
theorem w7.half {n:Nat} {s:Sp} (h:w7 n s):w7 (n+1) (loS s)∧w7 (n+1) (hiS s):=by
 obtain⟨h1,h2,h3,h4,h5⟩:=h
 have hm:=h1.md h2
 have e:(s.1+s.2)/2*2=s.1+s.2:=Rat.div_mul_cancel (by decide)
 unfold loS hiS pH
 exact⟨⟨h1.succ,hm,h3,by show s.1<(s.1+s.2)/2;grind,by show (s.1+s.2)/2≤1;grind⟩,⟨hm,h2.succ,by show 0≤(s.1+s.2)/2;grind,by show (s.1+s.2)/2<s.2;grind,h5⟩⟩
theorem w7.rl {n:Nat} {s:Sp} (h:w7 n s) (hn:n≤24):Go.Lg.rl s.1≤1∧Go.Lg.rl s.2≤1:=by
 obtain⟨h1,h2,h3,h4,h5⟩:=h
 exact⟨h1.rl hn (by grind) (by grind),h2.rl hn (by grind) (by grind)⟩
theorem aH6 (D:Nat):pY D rB:=by
 have h0:rZ 0 (0:Rat):=aCG 0
 have h1:rZ 0 (1:Rat):=aCG 1
 exact⟨dF,dF,0,0,rfl,rfl,⟨by decide,by decide,by decide,by decide⟩,Nat.zero_le _,⟨h0,h1,by decide +kernel,by decide +kernel,by decide +kernel⟩,⟨h0,h1,by decide +kernel,by decide +kernel,by decide +kernel⟩⟩
theorem aGo {D:Nat} {x:gG} (h:pY D x) (hd:x.2.1<D):pY D (loB x)∧pY D (hiB x):=by
 obtain⟨s,t,i,j,e,f,⟨i1,i2,j1,j2⟩,_,hs,ht⟩:=h
 have ha:lT x=0∨lT x=1:=by
  have:=pI (t:=x.2.2) x.2.2.length (Nat.le_refl _) (by rw [f];exact Nat.succ_pos _)
  have hl:x.2.2.length=2:=by rw [f];rfl
  unfold lT;omega
 unfold loB hiB aAu
 rcases ha with g | g
 ·rw [g,e,f]
  exact⟨⟨loS s,t,i+1,j,rfl,rfl,⟨by omega,by show i+1≤((x.2.1+1:Nat):Int);omega,j1,by show j≤((x.2.1+1:Nat):Int);omega⟩,hd,hs.half.1,ht.succ⟩,
   ⟨hiS s,t,i+1,j,rfl,rfl,⟨by omega,by show i+1≤((x.2.1+1:Nat):Int);omega,j1,by show j≤((x.2.1+1:Nat):Int);omega⟩,hd,hs.half.2,ht.succ⟩⟩
 ·rw [g,e,f]
  exact⟨⟨s,loS t,i,j+1,rfl,rfl,⟨i1,by show i≤((x.2.1+1:Nat):Int);omega,by omega,by show j+1≤((x.2.1+1:Nat):Int);omega⟩,hd,hs.succ,ht.half.1⟩,
   ⟨s,hiS t,i,j+1,rfl,rfl,⟨i1,by show i≤((x.2.1+1:Nat):Int);omega,by omega,by show j+1≤((x.2.1+1:Nat):Int);omega⟩,hd,hs.succ,ht.half.2⟩⟩
theorem aKG {P:Program} {f:Nat} {cap:List LV} {D:Nat} (hD:D≤24) (a u p v:V3)
  (hl:∀ s t:Sp,w7 D s→w7 D t→aN P f ([.list 6 ([s].map spL),.list 6 ([t].map spL)]++cap) (vdL (kI a u p v [s] [t]))):LookOK P f cap D 1 2 (kI a u p v) (pY D):=by
 have hle:∀ {n:Nat} {s:Sp},n≤D→w7 n s→w7 D s:=fun hn h=>⟨h.1.le hn,h.2.1.le hn,h.2.2⟩
 refine⟨fun x h=>?_,fun x h t ht=>?_,fun x h=>?_,fun x h s hs=>?_,fun x h hd=>aGo h hd,fun x h=>?_,fun x h=>?_⟩
 ·obtain⟨s,t,i,j,e,f,_⟩:=h;rw [e,f];exact⟨rfl,rfl⟩
 ·obtain⟨s,t',i,j,e,f,⟨i1,i2,j1,j2⟩,hd,_⟩:=h
  rw [f] at ht
  simp only [List.mem_cons,List.not_mem_nil,or_false] at ht
  rcases ht with rfl | rfl<;>omega
 ·obtain⟨_,_,_,_,_,_,_,hd,_⟩:=h;exact hd
 ·obtain⟨s',t',i,j,e,f,_,hd,k1,k2⟩:=h
  rw [e] at hs
  simp only [List.mem_cons,List.not_mem_nil,or_false] at hs
  rcases hs with rfl | rfl
  ·have:=k1.rl (by omega);exact⟨⟨by omega,by omega⟩,Rat.le_of_lt k1.2.2.2.1⟩
  ·have:=k2.rl (by omega);exact⟨⟨by omega,by omega⟩,Rat.le_of_lt k2.2.2.2.1⟩
 ·obtain⟨s',t',i,j,e,f,_,hd,k1,k2⟩:=h
  rw [e];exact hl s' t' (hle hd k1) (hle hd k2)
 ·unfold kI
  split
  ·refine⟨?_,Nat.zero_le _⟩
   show (if _ then 0 else if _ then 3 else 2)≤4
   split
   ·exact Nat.zero_le _
   ·split
    ·exact Nat.le_succ 3
    ·exact Nat.le_of_ble_eq_true rfl
  ·exact⟨Nat.zero_le _,Nat.zero_le _⟩
end Go.Proofs.YtckppbhafancnaaGreat
end
section
set_option linter.unusedVariables false
set_option linter.unusedSimpArgs false
namespace Go.Lg
theorem a7.frz {L:St} {t:Nat} {x y:LV} (bs:List Nat) (h0:bs.contains 0=false) (h:L.slot t=x) (hi:Imm (L.frz bs).heap x y):a7 L ((L.frz bs).put (some t) y):=by
 rintro n W X Z0 a w ⟨hdf,hsz,μ,Z,hc,hr⟩
 obtain⟨Z',hc',hz⟩:=hc.widen (kQ bs h0)
 refine⟨hdf,hsz,μ,Z',by rw [eL];exact hc',fun s=>?_⟩
 have hm:=bP.mono hz (fun _ _ h=>h) (Frame.refl Z μ w) (hr s)
 rw [bU]
 split
 ·rename_i hst
  subst hst
  rw [h] at hm
  exact bP.of1 (LV.pure_ne_tup hi.lay.2.2) (Imm.soundV (μ':=μ) hc' hi hm)
 ·exact hm
theorem a7.hand {L:St} {t:Nat} {α:Type} {e:α→LV} {ag:Bool} {b sz len:Nat} {l:List α} {m:Bool} (he:EncOK e sz ag) (h:L.slot t=.ref b sz 0 len) (hb:L.heap b=some ⟨sz,l.map e,m⟩) (hl:len=l.length) (h0:b≠0:=by decide) :
  a7 L ((L.put (some t) (.list sz (l.map e))).kill b):=by
 have h0':([b]:List Nat).contains 0=false:=by simp;omega
 have e1:=(a7.frz [b] h0' h (cC (bs:=[b]) he hb (by simp) hl)).trans (a7.kill _ b h0)
 have e2:((L.frz [b]).put (some t) (.list sz (l.map e))).kill b=(L.put (some t) (.list sz (l.map e))).kill b:=by
  unfold St.kill
  congr 1
  funext c
  rw [eL,eL]
  by_cases hcb:c=b
  ·simp [hcb]
  ·simp only [St.frz,if_neg hcb]
   cases L.heap c with
   | none=>rfl
   | some blk=>simp [hcb]
 rw [←e2]
 exact e1
theorem a7.boxp {L:St} {t b sz:Nat} {y:LV} {m:Bool} (h:L.slot t=.eptr b sz 0 0) (hb:L.heap b=some ⟨sz,[y],m⟩) (hs:y.csize=sz) (ha:y.isAgg=true) (hp:y.pure=true) (h0:b≠0:=by decide):a7 L ((L.put (some t) (.boxp y)).kill b):=by
 have h0':([b]:List Nat).contains 0=false:=by simp;omega
 have e1:=(a7.frz [b] h0' h (.eptr (blk:=⟨sz,[y],m && !([b]:List Nat).contains b⟩) (x:=y) (n:=sz) (ag:=true) (by simp only [St.frz,hb,Option.map_some]) rfl rfl hs (b7 hs ha) hp (by simp))).trans (a7.kill _ b h0)
 have e2:((L.frz [b]).put (some t) (.boxp y)).kill b=(L.put (some t) (.boxp y)).kill b:=by
  unfold St.kill
  congr 1
  funext c
  rw [eL,eL]
  by_cases hcb:c=b
  ·simp [hcb]
  ·simp only [St.frz,if_neg hcb]
   cases L.heap c with
   | none=>rfl
   | some blk=>simp [hcb]
 rw [←e2]
 exact e1
def aDg:List (Nat × Blk)→List (Nat × Blk)→Prop
 | [],_=>True
 | (b,x) :: t,l=>hp l b=some x∧aDg t l
theorem aCp {l':List (Nat × Blk)}:∀ {l:List (Nat × Blk)},aDg l l'→∀ c x,hp l c=some x→hp l' c=some x
 | [],_,c,x,h=>by cases h
 | (b,y) :: t,h,c,x,hc=>by
  simp only [hp] at hc
  by_cases hb:c=b
  ·subst hb
   simp only [Nat.beq_refl,cond_true,Option.some.injEq] at hc
   subst hc
   exact h.1
  ·have:Nat.beq c b=false:=by rw [←Bool.not_eq_true,Nat.beq_eq];exact hb
   rw [this] at hc
   exact aCp h.2 c x hc
theorem fP {l l':List (Nat × Blk)} (h:aDg l l') (h':aDg l' l):hp l=hp l':=by
 funext c
 cases hc:hp l c with
 | some x=>exact(aCp h c x hc).symm
 | none =>
  cases hc':hp l' c with
  | none=>rfl
  | some x=>rw [aCp h' c x hc'] at hc;cases hc
def p8:Op→Bool
 | .store ..=>true
 | .build ..=>true
 | .box ..=>true
 | .alloc ..=>true
 | .buildSlice ..=>true
 | .makeSlice ..=>true
 | .call ⟨.value (.func _),_,_⟩=>true
 | .call ⟨.builtin .append,_,_⟩=>true
 | op=>k5 op
section
variable {P:Program} {H:cM} {ρ ρ':Operand→LV}
theorem aGK {ps:Array (Nat × Operand)} (hr:∀ p∈ps.toList,ρ' p.2=ρ p.2):(ps.toList.map fun p=>(p.1,ρ p.2))=ps.toList.map fun p=>(p.1,ρ' p.2) :=
 List.map_congr_left fun p hp=>by rw [hr p hp]
theorem OpA.cong {d:Nat} {op:Op} {r:LV} {blk:Blk} (h:OpA P ρ d op r blk) (hr:∀ x∈op.operands,ρ' x=ρ x):OpA P ρ' d op r blk:=by
 cases h with
 | make hT hz hE hzs hb hl hc hnm hm hm2=>exact .make hT hz hE hzs hb ((hr _ (by simp [Op.operands])).trans hl) ((hr _ (by simp [Op.operands])).trans hc) hnm hm hm2
 | @lit T E n ps z sz hT hz hE hzs hn h0 hs0 hp =>
  have hq:∀ p∈ps.toList,ρ' p.2=ρ p.2:=fun p hp=>hr _ (by simp only [Op.operands,List.mem_toArray];exact List.mem_map.2 ⟨p,hp,rfl⟩)
  rw [aGK hq]
  exact .lit hT hz hE hzs hn h0 hs0 fun p hp'=>by rw [hq p hp'];exact hp p hp'
 | lit0 hT hE=>exact .lit0 hT hE
 | @box T x hne =>
  have e:=hr x (by simp [Op.operands])
  rw [←e]
  rw [←e] at hne
  exact .box hne
 | alloc hz=>exact .alloc hz
theorem OpP.congB {T:TypeId} {ps:Array (Nat × Operand)} {r:LV} (h:OpP P H ρ (.build T ps) r) (hr:∀ x∈(Op.build T ps).operands,ρ' x=ρ x):OpP P H ρ' (.build T ps) r:=by
 have hq:∀ p∈ps.toList,ρ' p.2=ρ p.2:=fun p hp=>hr _ (by simp only [Op.operands,List.mem_toArray];exact List.mem_map.2 ⟨p,hp,rfl⟩)
 cases h with
 | buildA hT hE hf hz hp =>
  rw [aGK hq]
  exact .buildA hT hE hf hz fun p hp'=>by rw [hq p hp'];exact hp p hp'
 | build hT hz hp =>
  rw [aGK hq]
  exact .build hT hz fun p hp'=>by rw [hq p hp'];exact hp p hp'
end
theorem aFW (L:St) {d:Nat} {v:LV} (hv:∀ b,v.kill b=v) (b:Nat):(L.put (some d) v).kill b=(L.kill b).put (some d) v:=by
 have h1:∀ t,((L.put (some d) v).kill b).slot t=((L.kill b).put (some d) v).slot t:=fun t=>by
  rw [bU]
  show (((L.put (some d) v).slot t).kill b)=_
  rw [bU]
  split
  ·exact hv b
  ·rfl
 exact congrArg (fun f=>St.mk f (L.kill b).heap) (funext h1)
section
variable {P:Program} {ops:Array Oper}
theorem aCe {L L2:St} {d:Nat} {v:LV} {o:Oper} (hv:∀ b,v.kill b=v) (hk:p8 o.op=true) (hl:d∉o.looksAt ops) (hd:o.dst≠some d) (h:Step P false ops o (L.put (some d) v) L2) :
  ∃ L1,Step P false ops o L L1∧L2=L1.put (some d) v∧∀ t,o.dst≠some t→(∀ b,(L.slot t).kill b=L.slot t)→L1.slot t=L.slot t:=by
 have hev:=aKE (L:=L) (v:=v) hl
 have hsl:∀ (M:St) (r:LV) t,M.slot t=L.slot t→o.dst≠some t→(M.put o.dst r).slot t=L.slot t:=fun M r t hM hne=>by
  cases hh:o.dst with
  | none=>exact hM
  | some e=>rw [bU,if_neg (fun q=>hne (by rw [hh,q]))];exact hM
 cases h with
 | skip hg hL=>exact⟨L.put o.dst (.tup []),.skip (jW hl hg) rfl,by rw [hL,jX L hd],fun t ht _=>hsl L _ t rfl ht⟩
 | @val r fr H1 hg hle hfr hov hL =>
  obtain⟨dst,op,ty,pos,after,gd⟩:=o
  have hev':∀ x∈op.operands,L.ev x=(L.put (some d) v).ev x:=fun x hx=>(hev x hx).symm
  have hov2:OpV P H1 L.ev (dst.getD 0) op r fr:=by
   cases hov with
   | pure hp =>
    by_cases hpl:k5 op=true
    ·exact .pure (hp.cong hpl hev')
    ·by_cases hbq:∃ T ps,op=.build T ps
     ·obtain⟨T,ps,rfl⟩:=hbq
      exact .pure (hp.congB hev')
     ·cases hp with
      | ext2 hf hname hb hn he hx hr h1 h2 =>
       refine .pure (.ext2 hf hname hb hn he ?_ hr h1 h2)
       rw [←hx]
       exact List.map_congr_left fun x hxm=>hev' x (wW hxm)
      | build=>exact absurd ⟨_,_,rfl⟩ hbq
      | buildA=>exact absurd ⟨_,_,rfl⟩ hbq
      | _=>first | (exfalso;exact hpl rfl) | (exfalso;revert hk hpl;simp [p8,k5])
   | alloc ha=>exact .alloc (ha.cong hev')
   | call hc =>
    cases hc with
    | func ha hkk hlen hpu =>
     refine .call (.func ?_ hkk hlen hpu)
     rw [show (_:Array Operand).toList.map L.ev=_ from List.map_congr_left fun x hxm=>hev' x (wW hxm)]
     exact ha
    | clo=>exfalso;revert hk;simp [p8,k5]
    | mk=>exfalso;revert hk;simp [p8,k5]
  refine⟨⟨(L.put dst r).slot,H1⟩,.val (jW hl hg) hle hfr hov2 rfl,?_,fun t ht _=>hsl L r t rfl ht⟩
  rw [hL]
  have:=jX L hd v r
  exact congrArg (fun M=>St.mk (St.slot M) H1) this
 | st hg hot =>
  obtain⟨dst,op,ty,pos,after,gd⟩:=o
  cases hot with
  | store hp hb hs hm hi hy hput hT hne =>
   rename_i T p x b sz i o' blk y y'
   have e1:=hev p (by simp [Op.operands])
   have e2:=hev x (by simp [Op.operands])
   rw [e1] at hp
   rw [e2] at hput hT hne
   refine⟨_,.st (jW hl hg) (.store hp hb hs hm hi hy hput hT hne),?_,fun t ht _=>?_⟩
   ·exact jX (L.setB b _) hd v .any
   ·exact hsl (L.setB b _) .any t rfl ht
  | appX hx hb hs hm hlen hbd hb0 hT hU hz hE hzs hby hy hsz h63 hs0 =>
   rename_i T U E E' d' b sz len blk x y news z by_
   have e1:=hev x (by simp [Op.operands,Call.operands])
   have e2:=hev y (by simp [Op.operands,Call.operands])
   rw [e1] at hx
   rw [e2] at hy
   refine⟨_,.st (jW hl hg) (.appX hx hb hs hm hlen hbd hb0 hT hU hz hE hzs hby hy hsz h63 hs0),?_,fun t ht hf=>?_⟩
   ·rw [aFW L hv]
    exact jX ((L.kill b).setB d' _) hd v _
   ·exact hsl ((L.kill b).setB d' _) _ t (hf b) ht
  | app0X hx hbd hT hU hz hE hzs hby hy hn hsz h63 hs0 =>
   rename_i T U E E' d' sz x y news z by_
   have e1:=hev x (by simp [Op.operands,Call.operands])
   have e2:=hev y (by simp [Op.operands,Call.operands])
   rw [e1] at hx
   rw [e2] at hy
   refine⟨_,.st (jW hl hg) (.app0X hx hbd hT hU hz hE hzs hby hy hn hsz h63 hs0),?_,fun t ht hf=>?_⟩
   ·exact jX (L.setB d' _) hd v _
   ·exact hsl (L.setB d' _) _ t rfl ht
  | _=>exfalso;revert hk;simp [p8,k5]
 | stM hdr hg hom =>
  obtain⟨dst,op,ty,pos,after,gd⟩:=o
  cases hom with
  | call hb hm hp ha hn hkk hm' hp' =>
   rename_i f xs ats args r b blk blk'
   have em:xs.toList.map (L.put (some d) v).ev=xs.toList.map L.ev:=List.map_congr_left fun x hxm=>hev x (wW hxm)
   rw [em] at ha hn
   refine⟨_,.stM hdr (jW hl hg) (.call hb hm hp ha hn hkk hm' hp'),?_,fun t ht _=>?_⟩
   ·exact jX (L.setB b _) hd v _
   ·exact hsl (L.setB b _) _ t rfl ht
  | appz hT hU hz hE hzs hb hx hy hbd h0 hs0 hm h63 =>
   rename_i T U E x y z k kl sz by_ n d'
   have e1:=hev x (by simp [Op.operands,Call.operands])
   have e2:=hev y (by simp [Op.operands,Call.operands])
   rw [e1] at hx
   rw [e2] at hy
   refine⟨_,.stM hdr (jW hl hg) (.appz hT hU hz hE hzs hb hx hy hbd h0 hs0 hm h63),?_,fun t ht _=>?_⟩
   ·exact jX (L.setB d' _) hd v _
   ·exact hsl (L.setB d' _) _ t rfl ht
def aAR (ops:Array Oper) (i:Nat) (D:Array Bool):Bool :=
 D.size==ops.size && !D.getD i true && (kP (ops.getD i default)).all (fun j=>D.getD j false) && (ops.getD i default).guard.isNone && k5 (ops.getD i default).op &&
 (List.range ops.size).all fun j=>j==i || D.getD j true || (p8 (ops.getD j default).op && ((ops.getD j default).dst != (ops.getD i default).dst) &&
  (match (ops.getD i default).dst with | some d=>!((ops.getD j default).looksAt ops).contains d || (kP (ops.getD j default)).contains i | none=>false) &&
  (match (ops.getD j default).dst with | some e=>!((ops.getD i default).looksAt ops).contains e | none=>true))
def zW (L:St):List Operand→Prop
 | []=>True
 | x :: xs=>(∀ b,(L.ev x).kill b=L.ev x)∧zW L xs
theorem tB {L:St}:∀ {l:List Operand},zW L l→∀ x∈l,∀ b,(L.ev x).kill b=L.ev x
 | _ :: _,h,_,.head _=>h.1
 | _ :: _,h,_,.tail _ hx=>tB h.2 _ hx
theorem fmA {p:Prop} (h:p:=by first | exact And.intro (fun _=>rfl) trivial | exact And.intro (fun _=>rfl) (And.intro (fun _=>rfl) trivial) | exact And.intro (fun b=>LV.kill_pure b _ pu) trivial):p:=h
theorem fmV {p:Prop} (h:p:=by first | exact(fun _=>rfl) | exact(fun b=>LV.kill_pure b _ pu) | exact(fun b=>LV.kill_pure b _ (by assumption))):p:=h
theorem fS {m:Nat} {K:St→Prop} {L:St} {D:Array Bool} {d:Nat} {v:LV} (i:Nat) {o:Oper} (ho:ops[i]?=some o) (hdst:o.dst=some d) (hok:aAR ops i D=true) (hv:OpP P (fun _=>none) L.ev o.op v)
  (hfv:∀ b,v.kill b=v) (hfo:zW L o.op.operands.toList)
  (h:mC P ops m (D.setIfInBounds i true) (L.put (some d) v) K):mC P ops (m+1) D L K:=by
 have getD_of:∀ i o,ops[i]?=some o→ops.getD i default=o:=fun i o h=>by rw [Array.getD_eq_getD_getElem?,h];rfl
 have hin:i<ops.size:=(Array.getElem?_eq_some_iff.1 ho).1
 let C:Array Bool→Prop:=fun D=>D.size=ops.size∧D.getD i false=false∧(∀ j∈kP o,D.getD j false=true)∧∀ j oj,ops[j]?=some oj→j≠i→D.getD j false=false →
  p8 oj.op=true∧oj.dst≠some d∧(d∈oj.looksAt ops→i∈kP oj)∧∀ e,oj.dst=some e→e∉o.looksAt ops
 unfold aAR at hok
 rw [getD_of i o ho,hdst] at hok
 simp only [Bool.and_eq_true,List.all_eq_true,List.mem_range,Bool.or_eq_true,beq_iff_eq,Bool.not_eq_true',Option.isNone_iff_eq_none,bne_iff_ne,ne_eq] at hok
 obtain⟨⟨⟨⟨⟨hsz,hni⟩,hrd⟩,hgd⟩,hslim⟩,hall⟩:=hok
 have hC:C D:=by
  refine⟨hsz,by rw [rT (by omega) false true];exact hni,hrd,fun j oj hj hne hDj=>?_⟩
  have hjl:j<ops.size:=(Array.getElem?_eq_some_iff.1 hj).1
  have:=hall j hjl
  rw [getD_of j oj hj] at this
  rcases this with(q | q) | q
  ·exact absurd q hne
  ·rw [rT (by omega) true false,hDj] at q;cases q
  ·obtain⟨⟨⟨q1,q2⟩,q3⟩,q4⟩:=q
   refine⟨q1,q2,fun hm=>?_,fun e he hm=>?_⟩
   ·rcases q3 with q | q
    ·rw [List.contains_iff_mem.2 hm] at q;cases q
    ·exact List.contains_iff_mem.1 q
   ·rw [he] at q4
    simp only [Bool.not_eq_true'] at q4
    rw [List.contains_iff_mem.2 hm] at q4;cases q4
 have hstepi:∀ L:St,OpP P (fun _=>none) L.ev o.op v→Step P false ops o L (L.put (some d) v):=fun L hv=>by
  refine .val (fr:=[]) (H1:=L.heap) (r:=v) (by unfold bS;rw [hgd]) (cM.le_refl _) (fun _ _ hh=>by cases hh) (.pure (hv.le fun b blk h=>by cases h)) ?_
  rw [hdst];rfl
 clear hsz hni hrd hall
 have hfo':∀ x∈o.op.operands,∀ b,(L.ev x).kill b=L.ev x:=fun x hx=>tB hfo x (Array.mem_toList_iff.2 hx)
 clear hfo
 have main:∀ (n:Nat) (D:Array Bool) (L:St),C D→OpP P (fun _=>none) L.ev o.op v→(∀ x∈o.op.operands,∀ b,(L.ev x).kill b=L.ev x)→mC P ops n (D.setIfInBounds i true) (L.put (some d) v) K→mC P ops (n+1) D L K:=by
  intro n
  induction n with
  | zero =>
   intro D L ⟨c1,c2,c3,c4⟩ hv _ hh
   have hri:i∈Region.ready .any ops D:=(gJ c1).2 ⟨o,ho,by rw [rT (by omega) true false];exact c2,c3⟩
   refine⟨fun hr=>(by rw [hr] at hri;cases hri),fun j hj=>?_⟩
   by_cases hji:j=i
   ·subst hji
    exact⟨o,_,ho,hstepi L hv,hh⟩
   ·exfalso
    obtain⟨oj,h1,h2,h3⟩:=(gJ c1).1 hj
    have:j∈Region.ready .any ops (D.setIfInBounds i true):=(gJ (by simpa using c1)).2 ⟨oj,h1,by
     rw [Array.getD_eq_getD_getElem?,Array.getElem?_setIfInBounds_ne (Ne.symm hji),←Array.getD_eq_getD_getElem?];exact h2,fun k hk=>by
     by_cases hki:i=k
     ·subst hki
      rw [Array.getD_eq_getD_getElem?,Array.getElem?_setIfInBounds_self_of_lt (by omega)];rfl
     ·rw [Array.getD_eq_getD_getElem?,Array.getElem?_setIfInBounds_ne hki,←Array.getD_eq_getD_getElem?];exact h3 k hk⟩
    rw [hh.1] at this;cases this
  | succ n ih =>
   intro D L ⟨c1,c2,c3,c4⟩ hv hfo hh
   have hri:i∈Region.ready .any ops D:=(gJ c1).2 ⟨o,ho,by rw [rT (by omega) true false];exact c2,c3⟩
   refine⟨fun hr=>(by rw [hr] at hri;cases hri),fun j hj=>?_⟩
   by_cases hji:j=i
   ·subst hji
    exact⟨o,_,ho,hstepi L hv,hh⟩
   ·obtain⟨oj,h1,h2,h3⟩:=(gJ c1).1 hj
    have hjl:j<ops.size:=(Array.getElem?_eq_some_iff.1 h1).1
    have hDj:D.getD j false=false:=by rw [rT (by omega) false true];exact h2
    have hji2:j∈Region.ready .any ops (D.setIfInBounds i true):=(gJ (by simpa using c1)).2 ⟨oj,h1,by
     rw [Array.getD_eq_getD_getElem?,Array.getElem?_setIfInBounds_ne (Ne.symm hji),←Array.getD_eq_getD_getElem?];exact h2,fun k hk=>by
     by_cases hki:i=k
     ·subst hki
      rw [Array.getD_eq_getD_getElem?,Array.getElem?_setIfInBounds_self_of_lt (by omega)];rfl
     ·rw [Array.getD_eq_getD_getElem?,Array.getElem?_setIfInBounds_ne hki,←Array.getD_eq_getD_getElem?];exact h3 k hk⟩
    obtain⟨oj',L2,g1,g2,g3⟩:=hh.2 j hji2
    rw [h1] at g1;cases g1
    obtain⟨k1,k2,k3,k4⟩:=c4 j oj h1 hji hDj
    have hnl:d∉oj.looksAt ops:=fun hm=>by
     have:=h3 i (k3 hm)
     rw [c2] at this;cases this
    obtain⟨L1,s1,s2,s3⟩:=aCe hfv k1 hnl k2 g2
    have hsame:∀ x∈o.op.operands,L1.ev x=L.ev x:=fun x hx=>by
     cases x with
     | tmp t =>
      have ht:t∈o.looksAt ops:=by
       unfold Oper.looksAt
       simp only [List.mem_append,List.mem_filterMap]
       exact .inl ⟨.tmp t,by simpa using hx,rfl⟩
      exact s3 t (fun q=>k4 t q ht) (hfo _ hx)
     | const v=>rfl
     | func f=>rfl
     | global f=>rfl
    refine⟨oj,L1,h1,s1,ih (D.setIfInBounds j true) L1 ⟨by simpa using c1,?_,fun k hk=>?_,fun k ok hk hne hDk=>?_⟩ (hv.cong hslim hsame) (fun x hx b=>by rw [hsame x hx];exact hfo x hx b) ?_⟩
    ·rw [Array.getD_eq_getD_getElem?,Array.getElem?_setIfInBounds_ne hji,←Array.getD_eq_getD_getElem?];exact c2
    ·by_cases hjk:j=k
     ·subst hjk
      rw [Array.getD_eq_getD_getElem?,Array.getElem?_setIfInBounds_self_of_lt (by omega)];rfl
     ·rw [Array.getD_eq_getD_getElem?,Array.getElem?_setIfInBounds_ne hjk,←Array.getD_eq_getD_getElem?];exact c3 k hk
    ·by_cases hjk:j=k
     ·subst hjk
      rw [Array.getD_eq_getD_getElem?,Array.getElem?_setIfInBounds_self_of_lt (by omega)] at hDk
      cases hDk
     ·rw [Array.getD_eq_getD_getElem?,Array.getElem?_setIfInBounds_ne hjk,←Array.getD_eq_getD_getElem?] at hDk
      exact c4 k ok hk hne hDk
    ·rw [←s2]
     have:(D.setIfInBounds j true).setIfInBounds i true=(D.setIfInBounds i true).setIfInBounds j true:=by
      refine Array.ext_getElem? fun k=>?_
      by_cases q1:i=k
      ·subst q1
       rw [Array.getElem?_setIfInBounds_self_of_lt (by simp;omega),Array.getElem?_setIfInBounds_ne hji,Array.getElem?_setIfInBounds_self_of_lt (by omega)]
      ·by_cases q2:j=k
       ·subst q2
        rw [Array.getElem?_setIfInBounds_ne q1,Array.getElem?_setIfInBounds_self_of_lt (by omega),Array.getElem?_setIfInBounds_self_of_lt (by simp;omega)]
       ·rw [Array.getElem?_setIfInBounds_ne q1,Array.getElem?_setIfInBounds_ne q2,Array.getElem?_setIfInBounds_ne q2,Array.getElem?_setIfInBounds_ne q1]
     rw [this];exact g3
 exact main m D L hC hv hfo' h
end
section
variable {P:Program} {ops:Array Oper}
inductive StepV (P:Program) (ops:Array Oper) (o:Oper) (L L':St):Prop
 | base (h:Step P false ops o L L')
 | hand {M:St} {t b sz len:Nat} {vals:List LV} {m:Bool} (h:Step P false ops o L M) (ht:M.slot t=.ref b sz 0 len) (hb:M.heap b=some ⟨sz,vals,m⟩) (hp:aV vals=true) (hl:len=vals.length) (h0:b≠0)
   (e:L'=(M.put (some t) (.list sz vals)).kill b)
section
variable {D:Array Bool} {L:St} {K:St→Prop} {fuel:Nat}
end
section
variable {W w:World} {X:XS} {Z0:Nat→Prop} {a:Act} {n:Nat}
end
end
section
variable {P:Program} {W w w':World} {X:XS} {Z0 Z Zr:Nat→Prop} {μ μr:Nat→Option Nat} {H:cM} {a:Act} {L L':St} {n:Nat} {ops:Array Oper}
def z9 (P:Program) (ops:Array Oper) (o:Oper) (L L':St):Prop :=
 ∀ (n:Nat) (W:World) (X:XS) (Z0:Nat→Prop) (a:Act) (w:World) (K:Act→World→Prop) (Q:Exit→Act→World→Prop),kZ n W X Z0 L a w→(∀ t,o.dst=some t→t<n) →
  (∀ a' w',kZ n W X Z0 L' a' w'→K a' w')→if Region.wanted o (yielded ops a.tmps) then o.wp P a w K Q else K (a.put o.dst undef) w
variable {Q:LEx→St→Prop}
end
end Go.Lg
namespace Go.Lg
section
variable {P:Program} {W w w':World} {X X0:XS} {Z0 Z Zr:Nat→Prop} {μ μr:Nat→Option Nat} {H H' Hr:cM} {a:Act} {L L':St} {n d:Nat} {ops:Array Oper} {σ:Nat→Nat}
def hJ (μ μr:Nat→Option Nat) (d:Nat):Nat→Option Nat:=fun c=>if 1000000+d*16<c∧c<1000000+d*16+16 then(μr (c-(1000000+d*16))).or (μ c) else μ c
theorem Core.callN (hc:Core W X Z0 μ Z H w) (hr:Core w X0 Z μr Zr Hr w') (hσ:∀ k id,μr k=some id→k≠0→k<16∧σ k=bK d k∧μ (bK d k)=none)
  (hb:∀ id,X0.x id→μ (σ 0)=some id∧¬ Z id) (hy:∀ id,X0.y id→(∀ c,μ c≠some id)∧¬ Z id∧(W.heap.size≤id∨X.y id)) (h0:∀ id,μr 0=some id→X0.x id) (hH:∀ k id blk,μr k=some id→Hr k=some blk→H' (σ k)=some ⟨blk.sz,eZ σ blk.vals,blk.mt⟩)
  (hold:∀ c id,μ c=some id→¬ X0 id→H' c=H c) :
  Core W X Z0 (hJ μ μr d) Zr H' w'∧(∀ c id,μ c=some id→hJ μ μr d c=some id)∧Frame Z μ w w'∧(∀ k id,μr k=some id→hJ μ μr d (σ k)=some id):=by
 have hold':∀ c id,μ c=some id→hJ μ μr d c=some id:=fun c id h=>by
  unfold hJ
  split
  ·rename_i hb'
   cases hq:μr (c-(1000000+d*16)) with
   | none=>simpa using h
   | some id' =>
    have:=(hσ _ _ hq (by omega)).2.2
    have e:bK d (c-(1000000+d*16))=c:=by unfold bK;omega
    rw [e,h] at this;cases this
  ·exact h
 have hnew1:∀ k id,μr k=some id→k≠0→hJ μ μr d (bK d k)=some id:=fun k id h hk=>by
  have:=(hσ _ _ h hk).1
  unfold hJ bK
  rw [if_pos (by omega)]
  have e:1000000+d*16+k-(1000000+d*16)=k:=by omega
  rw [e,h];rfl
 have hnew:∀ k id,μr k=some id→hJ μ μr d (σ k)=some id:=fun k id h=>by
  by_cases hk:k=0
  ·subst hk;exact hold' _ _ (hb id (h0 id h)).1
  ·rw [(hσ _ _ h hk).2.1];exact hnew1 k id h hk
 have hinv:∀ c id,hJ μ μr d c=some id→(∃ k,k≠0∧c=bK d k∧μr k=some id)∨μ c=some id:=fun c id h=>by
  unfold hJ at h
  split at h
  ·rename_i hb'
   cases hq:μr (c-(1000000+d*16)) with
   | none=>rw [hq] at h;exact .inr (by simpa using h)
   | some id' =>
    rw [hq] at h
    simp only [Option.some_or,Option.some.injEq] at h
    subst h
    exact .inl ⟨c-(1000000+d*16),by omega,by unfold bK;omega,hq⟩
  ·exact .inr h
 have hlo:∀ k id,μr k=some id→k≠0→w.heap.size≤id∨X0.y id:=fun k id h hk=>by
  rcases hr.own k id h with h1 | h1 | h1
  ·exact .inl h1
  ·exact absurd (hr.x0 k id h h1) hk
  ·exact .inr h1
 have hlt':∀ k id c,μr k=some id→k≠0→μ c=some id→False:=fun k id c h hk h1=>by
  rcases hlo k id h hk with h2 | h2
  ·have:=hc.lt h1;omega
  ·exact(hy id h2).1 c h1
 have hkeep:∀ k,k<w.heap.size→¬ X0 k→w'.heap[k]?=w.heap[k]?:=fun k hk hx=>hr.keep.block k hk hx
 have hfr:Frame Z μ w w':=by
  refine⟨fun id h=>hkeep id (hc.zone id h) (fun e=>e.elim (fun e=>(hb id e).2 h) (fun e=>(hy id e).2.1 h)),fun c id h cc T fz hcc=>?_⟩
  by_cases e:X0 id
  ·exact hr.keep.xsz id e cc T fz hcc
  ·exact⟨cc,(hkeep id (hc.lt h) e).trans hcc,rfl⟩
 have hX:∀ k,k<W.heap.size→¬ X k→¬ X0 k:=fun k hk hx e=>by
  rcases e with e | e
  ·rcases hc.own (σ 0) k (hb k e).1 with h | h
   ·omega
   ·exact hx h
  ·rcases(hy k e).2.2 with h | h
   ·omega
   ·exact hx (.inr h)
 refine⟨⟨?_,hr.zone,fun id h=>hr.zsup id (hc.zsup id h),?_,?_,?_,?_,hc.xlt,fun id h=>hold' 0 id (hc.x1 id h),?_,?_,?_⟩,hold',hfr,hnew⟩
 ·refine⟨hr.keep.os.trans hc.keep.os,hr.keep.tape.trans hc.keep.tape,hr.keep.output.trans hc.keep.output,Nat.le_trans hc.keep.size hr.keep.size,fun k hk hx=>?_,fun k hx c T fz h=>?_⟩
  ·exact(hkeep k (by have:=hc.keep.size;omega) (hX k hk hx)).trans (hc.keep.block k hk hx)
  ·obtain⟨c',g1,g2⟩:=hc.keep.xsz k hx c T fz h
   by_cases e:X0 k
   ·obtain⟨c2,g3,g4⟩:=hr.keep.xsz k e c' T fz g1
    exact⟨c2,g3,g4.trans g2⟩
   ·exact⟨c',(hkeep k (Array.getElem?_eq_some_iff.1 g1).1 e).trans g1,g2⟩
 ·intro id h
  rcases hr.zsub id h with h | h | h
  ·exact hc.zsub id h
  ·exact .inr (.inl (Nat.le_trans hc.keep.size h))
  ·exact .inr (hy id h).2.2
 ·intro c c' id h h'
  rcases hinv c id h with⟨k,k0,rfl,h1⟩ | h1<;>rcases hinv c' id h' with⟨k',k0',rfl,h2⟩ | h2
  ·rw [hr.inj k k' id h1 h2]
  ·exact(hlt' k id _ h1 k0 h2).elim
  ·exact(hlt' k' id _ h2 k0' h1).elim
  ·exact hc.inj c c' id h1 h2
 ·intro c id h
  rcases hinv c id h with⟨k,k0,rfl,h1⟩ | h1
  ·rcases hlo k id h1 k0 with h2 | h2
   ·exact .inl (Nat.le_trans hc.keep.size h2)
   ·exact(hy id h2).2.2.imp (fun h=>h) .inr
  ·exact hc.own c id h1
 ·intro c id h hx
  rcases hinv c id h with⟨k,k0,rfl,h1⟩ | h1
  ·exact(hlt' k id 0 h1 k0 (hc.x1 id hx)).elim
  ·exact hc.x0 c id h1 hx
 all_goals
  have hcase:∀ c id,hJ μ μr d c=some id→(∃ k blk,c=σ k∧μr k=some id∧Hr k=some blk∧kB Zr μr w' blk id)∨(¬ X0 id∧μ c=some id):=fun c id h=>by
   rcases hinv c id h with⟨k,k0,rfl,h1⟩ | h1
   ·obtain⟨blk,g1,g2⟩:=hr.heap k id h1
    exact .inl ⟨k,blk,(hσ k id h1 k0).2.1.symm,h1,g1,g2⟩
   ·by_cases e:X0 id
    ·have e:X0.x id:=e.resolve_right (fun e=>(hy id e).1 c h1)
     have hc0:=hc.inj c (σ 0) id h1 (hb id e).1
     have h2:=hr.x1 id e
     obtain⟨blk,g1,g2⟩:=hr.heap 0 id h2
     exact .inl ⟨0,blk,hc0,h2,g1,g2⟩
    ·exact .inr ⟨e,h1⟩
 ·intro c id blk h g hmt hz
  rcases hcase c id h with⟨k,b0,rfl,h1,g1,g2⟩ | ⟨e,h1⟩
  ·rw [hH k id b0 h1 g1] at g;cases g
   exact hr.mutz k id b0 h1 g1 hmt hz
  ·rw [hold c id h1 e] at g
   rcases hr.zsub id hz with hz | hz | hz
   ·exact hc.mutz c id blk h1 g hmt hz
   ·have:=hc.lt h1;omega
   ·exact(e (.inr hz)).elim
 ·intro c id blk h g hmt
  rcases hcase c id h with⟨k,b0,rfl,h1,g1,g2⟩ | ⟨e,h1⟩
  ·rw [hH k id b0 h1 g1] at g;cases g
   exact hr.frz k id b0 h1 g1 hmt
  ·rw [hold c id h1 e] at g
   exact hr.zsup id (hc.frz c id blk h1 g hmt)
 ·intro c id h
  rcases hcase c id h with⟨k,b0,rfl,h1,g1,cc,T,part,rest,q1,q2,q3⟩ | ⟨e,h1⟩
  ·exact⟨_,hH k id b0 h1 g1,cc,T,part,rest,q1,q2,aM.ren σ hnew _ _ _ q3⟩
  ·obtain⟨bk,g1,g2⟩:=hc.heap c id h1
   exact⟨bk,by rw [hold c id h1 e];exact g1,g2.mono hr.zsup hold' hfr (hkeep id (hc.lt h1) e)⟩
def kA (blk:Blk) (bs:List Blk):cM:=fun n=>if n=0 then some blk else bs[n-1]?
def sV (σ:Nat→Nat):Nat→List Blk→St→St
 | _,[],L=>L
 | k,b :: bs,L=>sV σ (k+1) bs (L.setB (σ k) (some ⟨b.sz,eZ σ b.vals,b.mt⟩))
theorem xK:∀ (bs:List Blk) (k:Nat) (L:St),(sV σ k bs L).slot=L.slot
 | [],_,_=>rfl
 | b :: bs,k,L=>by rw [sV,xK bs];rfl
theorem rG:∀ (bs:List Blk) (k:Nat) (L:St) (c:Nat),(∀ j,k≤j→j<k+bs.length→c≠σ j)→(sV σ k bs L).heap c=L.heap c
 | [],_,_,_,_=>rfl
 | b :: bs,k,L,c,h=>by
   rw [sV,rG bs (k+1) _ c (fun j h1 h2=>h j (by omega) (by simp only [List.length_cons];omega))]
   show (if c=σ k then _ else L.heap c)=_
   rw [if_neg (h k (Nat.le_refl _) (by simp only [List.length_cons];omega))]
theorem aAZ:∀ (bs:List Blk) (k:Nat) (L:St) (i:Nat) (b:Blk),(∀ j j',k≤j→j<j'→j'<k+bs.length→σ j≠σ j')→bs[i]?=some b→(sV σ k bs L).heap (σ (k+i))=some ⟨b.sz,eZ σ b.vals,b.mt⟩
 | [],_,_,i,_,_,h=>by simp at h
 | x :: xs,k,L,0,b,hi,h=>by
   simp only [List.getElem?_cons_zero,Option.some.injEq] at h;subst h
   show (sV σ k (x :: xs) L).heap (σ k)=_
   rw [sV,rG xs (k+1) _ _ (fun j h1 h2=>hi k j (Nat.le_refl _) (by omega) (by simp only [List.length_cons];omega))]
   simp [St.setB]
 | x :: xs,k,L,i+1,b,hi,h=>by
   rw [sV]
   have:=aAZ xs (k+1) (L.setB (σ k) (some ⟨x.sz,eZ σ x.vals,x.mt⟩)) i b (fun j j' h1 h2 h3=>hi j j' (by omega) h2 (by simp only [List.length_cons];omega)) (by simpa using h)
   rwa [show k+1+i=k+(i+1) by omega] at this
def i7 (b d:Nat):Nat→Nat:=fun k=>if k=0 then b else bK d k
end
end Go.Lg
namespace Go.Lg
section
variable {P:Program} {W w w':World} {X X0:XS} {Z0 Z Zr:Nat→Prop} {μ μr:Nat→Option Nat} {H H' Hr:cM} {a:Act} {L L':St} {n d:Nat} {ops:Array Oper} {σ:Nat→Nat}
def mT (own:List Nat):Nat→Nat:=fun b=>if b=0 then 0 else own.idxOf b+1
def kW (μ:Nat→Option Nat) (own:List Nat):Nat→Option Nat:=fun k=>if k=0 then μ 0 else(own[k-1]?).bind μ
theorem aBc {own:List Nat} {k id:Nat} (hnd:own.Nodup) (h:kW μ own k=some id):(k=0∧μ 0=some id)∨∃ b,k≠0∧own[k-1]?=some b∧μ b=some id:=by
 unfold kW at h
 split at h
 ·rename_i e;exact .inl ⟨e,h⟩
 ·rename_i e
  rw [Option.bind_eq_some_iff] at h
  obtain⟨b,g1,g2⟩:=h
  exact .inr ⟨b,e,g1,g2⟩
theorem aAF {own:List Nat} {H:cM} (hc:∀ c id,μ c=some id→H c≠none) (hdom:∀ c,c≠0→H c≠none→c∈own):∀ c id,μ c=some id→kW μ own (mT own c)=some id:=fun c id h=>by
 by_cases h0:c=0
 ·subst h0;simpa [mT,kW] using h
 ·have hm:=hdom c h0 (hc c id h)
  have hl:=List.idxOf_lt_length_of_mem hm
  have he:own[own.idxOf c]?=some c:=by rw [List.getElem?_eq_getElem hl,List.getElem_idxOf hl]
  simp [mT,kW,h0,he,h]
theorem oG {μ':Nat→Option Nat} (f:Nat→Nat) (hm:∀ c id,μ c=some id→μ' (f c)=some id) (hc:Core W X Z0 μ Z L.heap w) (hr:∀ t,bP Z μ w (L.slot t) (a.tmps.getD t undef)) :
  ∀ (rs:List ResultVar) (xs:List LV),ResL P L rs xs→(∀ x∈xs,x≠.any∧∀ l,x≠.tup l)→∃ us,(rs.mapM (mW a.tmps)).run P w=.ok us w∧dY Z μ' w (eZ f xs) us
 | _,_,.nil,_=>⟨[],rfl,rfl⟩
 | _,_,.cons (vs:=vs) (xs:=xs) h t,hx=>by
   obtain⟨u,q1,q2⟩:=oN hc hr h (hx _ (by simp))
   obtain⟨us,q3,q4⟩:=oG f hm hc hr _ _ t (fun y hy=>hx y (by simp [hy]))
   refine⟨u :: us,?_,u,us,rfl,q2.ren f hm,q4⟩
   rw [List.mapM_cons,Sem.run_bind,q1]
   simp only [Result.andThen_ok,Sem.run_bind,q3,Sem.run_pure]
theorem aBl {ys:List LV} {us:List Value} (h:dY Z μ w ys us):bP Z μ w (nE ys) (if h:us.toArray.size=1 then us.toArray[0] else .tuple us.toArray):=by
 have hyl:=gO _ _ h
 match ys,us,h,hyl with
 | [y],[u],q2,_ =>
  obtain⟨v,vs',e,g1,g2⟩:=q2
  simp only [List.cons.injEq] at e
  obtain⟨rfl,_⟩:=e
  have hnt:∀ l,y≠.tup l:=fun l e=>by subst e;have:=g1.2 rfl;simp [bZ] at this
  exact bP.of1 hnt g1
 | [],[],q2,_=>exact⟨_,rfl,by simpa using q2⟩
 | y :: y' :: ys,u :: u' :: us,q2,_=>exact⟨(u :: u' :: us).toArray,by simp,by simpa using q2⟩
theorem Core.outN {own:List Nat} {Hr:cM} {bs:List Blk} (hc:Core W X Z0 μ Z H w) (hnd:own.Nodup) (hn0:0∉own) (hdom:∀ c,c≠0→H c≠none→c∈own)
  (hbs:∀ (k b:Nat),own[k]?=some b→∃ blk:Blk,H b=some blk∧bs[k]?=some ⟨blk.sz,eZ (mT own) blk.vals,blk.mt⟩)
  (hr1:∀ k,k≠0→Hr k=bs[k-1]?) (hr0:∀ id blk,μ 0=some id→H 0=some blk→Hr 0=some ⟨blk.sz,eZ (mT own) blk.vals,blk.mt⟩) :
  Core W X Z0 (kW μ own) Z Hr w∧∀ c id,μ c=some id→kW μ own (mT own c)=some id:=by
 have hhm:∀ c id,μ c=some id→H c≠none:=fun c id h e=>by obtain⟨bk,g,_⟩:=hc.heap c id h;rw [e] at g;cases g
 have hm:=aAF (μ:=μ) (own:=own) hhm hdom
 have hcase:∀ k id,kW μ own k=some id→∃ c blk,μ c=some id∧H c=some blk∧kB Z μ w blk id∧Hr k=some ⟨blk.sz,eZ (mT own) blk.vals,blk.mt⟩∧((k=0∧c=0)∨(k≠0∧c≠0∧own[k-1]?=some c)):=fun k id h=>by
  rcases aBc hnd h with⟨rfl,h0⟩ | ⟨b,k0,g1,g2⟩
  ·obtain⟨blk,q1,q2⟩:=hc.heap 0 id h0
   exact⟨0,blk,h0,q1,q2,hr0 id blk h0 q1,.inl ⟨rfl,rfl⟩⟩
  ·obtain⟨blk,q1,q2⟩:=hc.heap b id g2
   obtain⟨blk',j1,j2⟩:=hbs _ _ g1
   rw [q1] at j1;cases j1
   exact⟨b,blk,g2,q1,q2,by rw [hr1 k k0];exact j2,.inr ⟨k0,fun e=>hn0 (e ▸ List.mem_of_getElem? g1),g1⟩⟩
 refine⟨⟨hc.keep,hc.zone,hc.zsup,hc.zsub,?_,?_,?_,hc.xlt,fun id h=>by simpa [kW] using hc.x1 id h,?_,?_,?_⟩,hm⟩
 ·intro k k' id h h'
  obtain⟨c,_,g1,_,_,_,g2⟩:=hcase k id h
  obtain⟨c',_,g1',_,_,_,g2'⟩:=hcase k' id h'
  have e:=hc.inj c c' id g1 g1'
  subst e
  rcases g2 with⟨rfl,c0⟩ | ⟨k0,c0,q⟩<;>rcases g2' with⟨rfl,c0'⟩ | ⟨k0',c0',q'⟩
  ·rfl
  ·exact absurd c0 c0'
  ·exact absurd c0' c0
  ·obtain⟨l1,e1⟩:=List.getElem?_eq_some_iff.1 q
   obtain⟨l2,e2⟩:=List.getElem?_eq_some_iff.1 q'
   have hp:=List.pairwise_iff_getElem.1 hnd
   rcases Nat.lt_trichotomy (k-1) (k'-1) with h | h | h
   ·exact absurd (e1.trans e2.symm) (hp _ _ l1 l2 h)
   ·omega
   ·exact absurd (e2.trans e1.symm) (hp _ _ l2 l1 h)
 ·intro k id h
  obtain⟨c,_,g1,_⟩:=hcase k id h
  exact hc.own c id g1
 ·intro k id h hx
  obtain⟨c,_,g1,_,_,_,g2⟩:=hcase k id h
  have:=hc.x0 c id g1 hx
  rcases g2 with⟨rfl,_⟩ | ⟨_,c0,_⟩
  ·rfl
  ·exact absurd this c0
 ·intro k id blk h g hmt
  obtain⟨c,b0,g1,g2,g3,g4,_⟩:=hcase k id h
  rw [g4] at g;cases g
  exact hc.mutz c id b0 g1 g2 hmt
 ·intro k id blk h g hmt
  obtain⟨c,b0,g1,g2,g3,g4,_⟩:=hcase k id h
  rw [g4] at g;cases g
  exact hc.frz c id b0 g1 g2 hmt
 ·intro k id h
  obtain⟨c,b0,g1,g2,⟨cc,T,part,rest,j1,j2,j3⟩,g4,_⟩:=hcase k id h
  exact⟨_,g4,cc,T,part,rest,j1,j2,aM.ren _ hm _ _ _ j3⟩
def mvN (b b':Nat):Nat→Nat:=fun k=>if k=b then b' else k
def St.move (L:St) (b b':Nat):St :=
 ⟨fun t=>(L.slot t).ren (mvN b b'),fun c=>if c=b' then(L.heap b).map fun x=>⟨x.sz,eZ (mvN b b') x.vals,x.mt⟩ else if c=b then none else(L.heap c).map fun x=>⟨x.sz,eZ (mvN b b') x.vals,x.mt⟩⟩
end
section
variable {Z Z':Nat→Prop} {μ μ':Nat→Option Nat} {w:World}
mutual
theorem LV.ren_pure_eq (f:Nat→Nat):∀ (x:LV),(x.ren f).pure=x.pure
 | .any=>rfl
 | .v _=>rfl
 | .list sz l=>by simp only [LV.ren,LV.pure,iD f l]
 | .agg l=>by simp only [LV.ren,LV.pure,iD f l]
 | .ref ..=>rfl
 | .eptr ..=>rfl
 | .boxp c=>by simp only [LV.ren,LV.pure,LV.ren_pure_eq f c]
 | .clo g l=>by simp only [LV.ren,LV.pure,iD f l]
 | .tup l=>by simp [LV.ren,LV.pure]
theorem iD (f:Nat→Nat):∀ (l:List LV),aV (eZ f l)=aV l
 | []=>rfl
 | x :: xs=>by simp only [eZ,aV,LV.ren_pure_eq f x,iD f xs]
end
mutual
theorem bZ.unren (f:Nat→Nat) (hm:∀ b id,μ (f b)=some id→μ' b=some id):∀ (lv:LV) (cs:List Value),bZ Z μ w (lv.ren f) cs→bZ Z μ' w lv cs
 | .any,_,h=>by simpa [bZ,LV.ren] using h
 | .v x,cs,h=>by simpa [bZ,LV.ren] using h
 | .list sz l,cs,h=>by
   have h9:aV l=true:=by
    simp only [bZ,LV.ren] at h
    obtain⟨a,len,cap,h1,h2,h3,h4,h9⟩:=h
    rwa [iD] at h9
   rw [LV.ren_pure f (.list sz l) (by simpa [LV.pure] using h9)] at h
   exact bZ.repure (fun _ h=>h) (fun _ _=>rfl) _ _ (by simpa [LV.pure] using h9) h
 | .agg l,cs,h=>by
   simp only [bZ,LV.ren] at h ⊢
   exact bV.unren f hm l cs h
 | .ref b sz off len,cs,h=>by
   simp only [bZ,LV.ren] at h ⊢
   rcases h with h | ⟨id,cap,c,T,fz,h1,h2,h3⟩
   ·exact .inl h
   exact .inr ⟨id,cap,c,T,fz,h1,hm _ _ h2,h3⟩
 | .eptr b sz i o,cs,h=>by
   simp only [bZ,LV.ren] at h ⊢
   obtain⟨id,h1,h2⟩:=h
   exact⟨id,h1,hm _ _ h2⟩
 | .boxp c,cs,h=>by
   have h9:c.pure=true:=by
    simp only [bZ,LV.ren] at h
    obtain⟨blk,off,cc,T,fz,part,rest,h1,h2,h3,h4,h5,h6,h7⟩:=h
    rwa [LV.ren_pure_eq] at h7
   rw [LV.ren_pure f (.boxp c) (by simpa [LV.pure] using h9)] at h
   exact bZ.repure (fun _ h=>h) (fun _ _=>rfl) _ _ (by simpa [LV.pure] using h9) h
 | .clo g cap,cs,h=>by
   have h9:aV cap=true:=by
    simp only [bZ,LV.ren] at h
    obtain⟨vs,h1,h2,h3⟩:=h
    rwa [iD] at h3
   rw [LV.ren_pure f (.clo g cap) (by simpa [LV.pure] using h9)] at h
   exact bZ.repure (fun _ h=>h) (fun _ _=>rfl) _ _ (by simpa [LV.pure] using h9) h
 | .tup _,_,h=>by simp [bZ,LV.ren] at h
theorem aM.unren (f:Nat→Nat) (hm:∀ b id,μ (f b)=some id→μ' b=some id) (sz:Nat):∀ (l:List LV) (cs:List Value),aM Z μ w sz (eZ f l) cs→aM Z μ' w sz l cs
 | [],cs,h=>by simpa [aM,eZ] using h
 | x :: xs,cs,h=>by
   simp only [aM,eZ] at h ⊢
   obtain⟨c1,c2,h1,h2,h3,h4⟩:=h
   exact⟨c1,c2,h1,h2,bZ.unren f hm x c1 h3,aM.unren f hm sz xs c2 h4⟩
theorem bV.unren (f:Nat→Nat) (hm:∀ b id,μ (f b)=some id→μ' b=some id):∀ (l:List LV) (cs:List Value),bV Z μ w (eZ f l) cs→bV Z μ' w l cs
 | [],cs,h=>by simpa [bV,eZ] using h
 | x :: xs,cs,h=>by
   simp only [bV,eZ] at h ⊢
   obtain⟨c1,c2,h1,h2,h3,h4⟩:=h
   exact⟨c1,c2,h1,by rw [←LV.ren_csize f];exact h2,bZ.unren f hm x c1 h3,bV.unren f hm xs c2 h4⟩
end
theorem dW.unren (f:Nat→Nat) (hm:∀ b id,μ (f b)=some id→μ' b=some id) {lv:LV} {v:Value} (h:dW Z μ w (lv.ren f) v):dW Z μ' w lv v :=
 ⟨fun e=>let ⟨cs,h1,h2⟩:=h.1 (by rwa [LV.ren_isAgg]);⟨cs,h1,bZ.unren f hm _ _ h2⟩,fun e=>bZ.unren f hm _ _ (h.2 (by rwa [LV.ren_isAgg]))⟩
end
def XS.two (i0:Nat) (μ0:Nat→Option Nat):XS:=⟨fun k=>k=i0,fun id=>∃ k,k≠0∧μ0 k=some id⟩
def tV (P:Program) (f:FuncId) (blk c1:Blk) (args:List LV) (r:LV) (blk':Blk) (bs:List Blk):Prop :=
 rM P f∧∀ (W:World) (Z0:Nat→Prop) (vs:List Value) (i0:Nat) (μ0:Nat→Option Nat),(∀ id,Z0 id→id<W.heap.size)→μ0 0=some i0 →
  (∀ k id,μ0 k=some id→¬ Z0 id∧∃ b,kA blk [c1] k=some b∧kB Z0 μ0 W b id)→(∀ k k' id,μ0 k=some id→μ0 k'=some id→k=k')→dY Z0 μ0 W args vs →
  Calls P f vs.toArray W fun e w'=>∃ v μ Z,e=.returned v∧Core W (XS.two i0 μ0) Z0 μ Z (kA blk' bs) w'∧bP Z μ w' r v
def aGS (P:Program) (rs:List ResultVar) (L:St) (r:LV) (blk':Blk) (bs:List Blk):Prop :=
 ∃ (xs:List LV) (own:List Nat) (b0:Blk),L.heap 0=some b0∧blk'=⟨b0.sz,eZ (mT own) b0.vals,b0.mt⟩∧ResL P L rs xs∧(∀ x∈xs,x≠.any∧∀ l,x≠.tup l)∧own.Nodup∧0∉own∧(∀ c,c≠0→L.heap c≠none→c∈own) ∧
  (∀ (k b:Nat),own[k]?=some b→∃ blk:Blk,L.heap b=some blk∧bs[k]?=some ⟨blk.sz,eZ (mT own) blk.vals,blk.mt⟩)∧r=nE (eZ (mT own) xs)
def aFn (P:Program) (rs:List ResultVar) (L:St) (r:LV) (blk':Blk) (bs:List Blk):Prop:=∃ L0,a7 L L0∧aGS P rs L0 r blk' bs
section
variable {P:Program} {W w w':World} {X X0:XS} {Z0 Z Zr:Nat→Prop} {μ μr:Nat→Option Nat} {H H' Hr:cM} {a:Act} {L L':St} {n d:Nat} {ops:Array Oper} {σ:Nat→Nat}
def StC (args:List LV) (blk c1:Blk):St:=⟨fun t=>args.getD t .any,kA blk [c1]⟩
theorem aJ3 (args:List LV) (blk c1:Blk):StC args blk c1=St.mk (fun t=>args.getD t .any) (hp [(0,blk),(1,c1)]):=by
 simp only [StC,St.mk.injEq,true_and]
 funext c
 simp only [hp,kA]
 match c with
 | 0=>rfl
 | 1=>rfl
 | c+2=>rw [if_neg (by omega),iA (show c+2≠0 by omega),iA (show c+2≠1 by omega)];simp
theorem aCw {f:FuncId} {fn:Func} {c:Code} {args:List LV} {r:LV} {blk c1 blk':Blk} {bs:List Blk} (hfol:P.follows .mixedOrders=true) (hf:P.funcs[f]?=some fn) (hb:fn.body=some c)
  (hn:(fn.name== "runtime.NumGoroutine")=false) (hd:fC fn.ntmps c=true) (hlen:args.length≤fn.ntmps) (hmt:blk.mt=true) (hmt1:c1.mt=true)
  (h:wpL P c (fun e L=>match e with | .exit _=>False | _=>aFn P fn.results.toList L r blk' bs) (St.mk (fun t=>args.getD t .any) (hp [(0,blk),(1,c1)]))):tV P f blk c1 args r blk' bs:=by
 rw [←aJ3] at h
 refine⟨⟨fn,hf,by rw [hb];rfl,hn⟩,fun W Z0 vs i0 μ0 hz h0 hbl hinj hargs=>?_⟩
 have hvl:=gO _ _ hargs
 refine calls_of_wp hf hb ?_
 have hltk:∀ k id,μ0 k=some id→id<W.heap.size:=fun k id e=>by
  obtain⟨_,bk,_,c,T,part,rest,h1,_⟩:=hbl k id e
  exact(Array.getElem?_eq_some_iff.1 h1).1
 have hmtk:∀ k bk,kA blk [c1] k=some bk→bk.mt=true:=fun k bk e=>by
  unfold kA at e
  split at e
  ·cases e;exact hmt
  ·rename_i hk
   have:=List.mem_of_getElem? e
   simp only [List.mem_singleton] at this
   subst this;exact hmt1
 have hsim:kZ fn.ntmps W (XS.two i0 μ0) Z0 (StC args blk c1) ⟨vs.toArray++Array.replicate (fn.ntmps-vs.toArray.size) undef,[]⟩ W:=by
  refine⟨rfl,by simp;omega,μ0,Z0,⟨Kept.refl _ _,hz,fun _ h=>h,fun _ h=>.inl h,hinj,fun b id e=>?_,fun b id e hx=>?_,fun id e=>?_,fun id e=>?_,fun b id bk e _ _=>(hbl b id e).1,
   fun b id bk e g hm=>?_,fun b id e=>?_⟩,fun t=>?_⟩
  ·by_cases hb0:b=0
   ·subst hb0;rw [h0] at e;cases e;exact .inr (.inl rfl)
   ·exact .inr (.inr ⟨b,hb0,e⟩)
  ·rw [show id=i0 from hx] at e;exact hinj _ _ _ e h0
  ·rcases e with e | ⟨k,_,e⟩
   ·rw [show id=i0 from e];exact hltk _ _ h0
   ·exact hltk _ _ e
  ·rw [show id=i0 from e];exact h0
  ·rw [hmtk b bk g] at hm;cases hm
  ·exact(hbl b id e).2
  ·have e:vs.toArray++Array.replicate (fn.ntmps-vs.toArray.size) undef=(vs++List.replicate (fn.ntmps-vs.toArray.size) undef).toArray:=by apply Array.ext';simp
   show bP Z0 μ0 W ((St0 args).slot t) ((vs.toArray++Array.replicate (fn.ntmps-vs.toArray.size) undef).getD t undef)
   rw [e]
   exact t6 args vs _ hargs t
 refine wp_mono (iH hfol c _ _ _ _ hsim h hd) fun e a w q=>?_
 have main:∀ L,aFn P fn.results.toList L r blk' bs→kZ fn.ntmps W (XS.two i0 μ0) Z0 L a w →
   a.defers=[]∧∃ v,(results fn a.tmps).run P w=.ok v w∧∃ v' μ Z,Ending.returned v=.returned v'∧Core W (XS.two i0 μ0) Z0 μ Z (kA blk' bs) w∧bP Z μ w r v':=by
  rintro L ⟨L0,hwk,xs,own,b0,hb0,hbl',h1,hx,h2,h3,h4,h5,h6⟩ hsL
  obtain⟨hdf,hsz,μ,Z,hc,hr⟩:=hwk _ _ _ _ _ _ hsL
  obtain⟨k1,k2⟩:=hc.outN (Hr:=kA blk' bs) h2 h3 h4 h5 (fun k hk=>by simp [kA,hk]) (fun id blk e g=>by rw [hb0] at g;cases g;simp [kA,hbl'])
  obtain⟨us,q1,q2⟩:=oG (mT own) k2 hc hr _ _ h1 hx
  have hrs:(fn.results.mapM (mW a.tmps)).run P w=.ok us.toArray w:=by
   rw [Array.mapM_eq_mapM_toList,Sem.run_map,q1];rfl
  refine⟨hdf,(if h:us.toArray.size=1 then us.toArray[0] else .tuple us.toArray),?_,_,_,Z,rfl,k1,?_⟩
  ·rw [qL,Sem.run_bind,hrs]
   rfl
  ·subst h6;exact aBl q2
 cases e with
 | normal=>obtain⟨L,q1,q2⟩:=q;exact main L q1 q2
 | ret=>obtain⟨L,q1,q2⟩:=q;exact main L q1 q2
 | exit id=>obtain⟨L,q1,q2⟩:=q;exact q1.elim
 | _=>exact q.elim
def nmC (b c d:Nat):Nat→Nat:=fun k=>if k=0 then b else if k=1 then c else bK d 0
inductive ArgC (H:cM) (σ:Nat→Nat):LV→LV→Prop
 | imm {x y} (h:Imm H x y):ArgC H σ x y
 | ren {y} (h:y≠.any∧∀ l,y≠.tup l):ArgC H σ (y.ren σ) y
inductive ArgCL (H:cM) (σ:Nat→Nat):List LV→List LV→Prop
 | nil:ArgCL H σ [] []
 | cons {x y xs ys} (h:ArgC H σ x y) (t:ArgCL H σ xs ys):ArgCL H σ (x :: xs) (y :: ys)
theorem ArgC.sound (hc:Core W X Z0 μ Z H w) {x y:LV} {v:Value} (h:ArgC H σ x y) (hr:bP Z μ w x v):dW Z (fun k=>μ (σ k)) w y v:=by
 cases h with
 | imm h=>exact Imm.soundV hc h hr
 | ren hn =>
  refine dW.unren σ (fun _ _ h=>h) ?_
  cases y with
  | any=>exact absurd rfl hn.1
  | tup l=>exact absurd rfl (hn.2 l)
  | _=>exact hr
theorem vX (hc:Core W X Z0 μ Z H w) {ρ:Operand→LV}:∀ (xs:List Operand) (args:List LV),ArgCL H σ (xs.map ρ) args→(∀ x∈xs,bP Z μ w (ρ x) (a.eval x)) →
  dY Z (fun k=>μ (σ k)) w args (xs.map a.eval)
 | [],_,h,_=>by cases h;rfl
 | x :: xs,_,h,hr=>by
   generalize hq:(x :: xs).map ρ=q at h
   cases h with
   | nil=>cases hq
   | cons h t =>
    simp only [List.map_cons,List.cons.injEq] at hq
    obtain⟨rfl,rfl⟩:=hq
    exact⟨_,_,rfl,h.sound hc (hr x (by simp)),vX hc xs _ t (fun y hy=>hr y (by simp [hy]))⟩
theorem aEz {f:FuncId} {xs:Array Operand} {ats:Array TypeId} {args:List LV} {r:LV} {b c sz csz:Nat} {vals cvals:List LV} {blk':Blk} {bs:List Blk} {dst:Option Tmp} {ty:TypeId} {pos:String} {af:Array Edge} {g:Option (Nat × Bool)} (d:Nat)
  (hg:bS ops L ⟨dst,.call ⟨.value (.func f),xs,ats⟩,ty,pos,af,g⟩ true) (hbc:b≠c) (hc0:c≠0)
  (hb:L.heap b=some ⟨sz,eZ (nmC b c d) vals,true⟩) (hcb:L.heap c=some ⟨csz,eZ (nmC b c d) cvals,true⟩)
  (ha:ArgCL L.heap (nmC b c d) (xs.toList.map L.ev) args) (hn:Names b (xs.toList.map L.ev))
  (hk:tV P f ⟨sz,vals,true⟩ ⟨csz,cvals,true⟩ args r blk' bs) (hlen:bs.length<16) (hf:∀ k,k<16→L.heap (bK d k)=none) :
  z9 P ops ⟨dst,.call ⟨.value (.func f),xs,ats⟩,ty,pos,af,g⟩ L ((sV (i7 b d) 1 bs ((L.kill c).setB b (some ⟨blk'.sz,eZ (i7 b d) blk'.vals,blk'.mt⟩))).put dst (r.ren (i7 b d))):=by
 intro n W X Z0 a w K Q ⟨hdf,hsz',μ,Z,hc,hr⟩ hd hK
 rw [fM hr hg]
 simp only [if_true]
 have hd':∀ t,dst=some t→t<a.tmps.size:=fun t h=>by rw [hsz'];exact hd t h
 obtain⟨i0,hi0⟩:=Names.mu (μ:=μ) (Z:=Z) (w:=w) (a:=a) xs.toList hn (fun x _=>fL (L:=L) hr x)
 have hargs:=vX (a:=a) hc xs.toList args ha (fun x _=>fL (L:=L) hr x)
 have hrun:(execOp a.eval (Oper.mk dst (.call ⟨.value (.func f),xs,ats⟩) ty pos af g)).run P w=.ok (.enter f (xs.map a.eval)) w:=by
  have:=lB (P:=P) (w:=w) (args:=xs.map a.eval) hk.1
  simp only [execOp,resolve,Act.eval,Deferred.ofValue,Sem.run_bind,Sem.run_pure,Result.andThen_ok,invoke]
  simpa using this
 unfold Oper.wp
 rw [hrun,Oper.upon_enter]
 have hun:μ (bK d 0)=none:=jD hc (hf 0 (by omega))
 have hk01:∀ k id,μ (nmC b c d k)=some id→(k=0∧μ b=some id)∨(k=1∧μ c=some id):=fun k id e=>by
  unfold nmC at e
  split at e
  ·exact .inl ⟨by assumption,e⟩
  ·split at e
   ·exact .inr ⟨by assumption,e⟩
   ·rw [hun] at e;cases e
 have hnz:=hc.mutz b i0 _ hi0 hb rfl
 have:=hk.2 w Z (xs.toList.map a.eval) i0 (fun k=>μ (nmC b c d k)) hc.zone (by simpa [nmC] using hi0) (fun k id e=>by
  rcases hk01 k id e with⟨rfl,e1⟩ | ⟨rfl,e1⟩
  ·obtain⟨blk1,g1,cc,T,part,rest,q1,q2,q3⟩:=hc.heap b id e1
   rw [hb] at g1;cases g1
   exact⟨hc.mutz b id _ e1 hb rfl,_,rfl,cc,T,part,rest,q1,q2,aM.unren _ (fun _ _ h=>h) _ _ _ q3⟩
  ·obtain⟨blk1,g1,cc,T,part,rest,q1,q2,q3⟩:=hc.heap c id e1
   rw [hcb] at g1;cases g1
   exact⟨hc.mutz c id _ e1 hcb rfl,_,rfl,cc,T,part,rest,q1,q2,aM.unren _ (fun _ _ h=>h) _ _ _ q3⟩)
  (fun k k' id e e'=>by
   rcases hk01 k id e with⟨rfl,e1⟩ | ⟨rfl,e1⟩<;>rcases hk01 k' id e' with⟨rfl,e2⟩ | ⟨rfl,e2⟩
   ·rfl
   ·exact absurd (hc.inj _ _ _ e1 e2) hbc
   ·exact absurd (hc.inj _ _ _ e2 e1) hbc
   ·rfl) hargs
 rw [show (xs.toList.map a.eval).toArray=xs.map a.eval from by apply Array.ext';simp] at this
 refine this.mono ?_
 rintro e w' ⟨v,μr,Zr,rfl,hrr,hv⟩
 have hinj:∀ j j',1≤j→j<j'→j'<1+bs.length→i7 b d j≠i7 b d j':=fun j j' h1 h2 _ e=>by
  unfold i7 at e
  rw [if_neg (by omega),if_neg (by omega)] at e
  unfold bK at e;omega
 have hk16:∀ k id,μr k=some id→k≠0→k<16∧∃ blk,bs[k-1]?=some blk:=fun k id h h0=>by
  obtain⟨bk,q1,_⟩:=hrr.heap k id h
  simp only [kA,if_neg h0] at q1
  have:=(List.getElem?_eq_some_iff.1 q1).1
  exact⟨by omega,bk,q1⟩
 have hk1:=hc.kill c hc0
 have hinv:∀ e id,f4 μ c e=some id→e≠c∧μ e=some id:=fun e id h=>by
  unfold f4 at h;split at h
  ·cases h
  ·exact⟨by assumption,h⟩
 have hi1:f4 μ c b=some i0:=by unfold f4;rw [if_neg hbc];exact hi0
 obtain⟨h1,h2,h3,h4⟩:=hk1.callN (d:=d) (σ:=i7 b d) (H':=(sV (i7 b d) 1 bs ((L.kill c).setB b (some ⟨blk'.sz,eZ (i7 b d) blk'.vals,blk'.mt⟩))).heap) hrr
  (fun k id h h0=>⟨(hk16 k id h h0).1,by unfold i7;rw [if_neg h0],by
   unfold f4;split
   ·rfl
   ·exact jD hc (hf k (hk16 k id h h0).1)⟩)
  (fun id e=>by rw [show id=i0 from e];exact⟨hi1,hnz⟩)
  (fun id ⟨k,k0,e⟩=>by
   rcases hk01 k id e with⟨rfl,e1⟩ | ⟨rfl,e1⟩
   ·exact absurd rfl k0
   ·refine⟨fun e he=>(hinv e id he).1 (hc.inj _ _ _ (hinv e id he).2 e1),hc.mutz c id _ e1 hcb rfl,?_⟩
    rcases hc.own c id e1 with h | h | h
    ·exact .inl h
    ·exact absurd (hc.x0 c id e1 h) hc0
    ·exact .inr h)
  (fun id h=>by have:=hrr.x1 i0 rfl;rw [h] at this;cases this;rfl)
  (fun k id bk h g=>by
   by_cases h0:k=0
   ·subst h0
    simp only [kA,if_true,Option.some.injEq] at g;subst g
    rw [rG _ _ _ _ (fun j h1 h2 e=>by
     unfold i7 at e
     rw [if_pos rfl,if_neg (by omega)] at e
     have:=hf j (by omega)
     rw [←e,hb] at this;cases this)]
    simp [St.setB,i7]
   ·simp only [kA,if_neg h0] at g
    have:=aAZ (σ:=i7 b d) bs 1 ((L.kill c).setB b (some ⟨blk'.sz,eZ (i7 b d) blk'.vals,blk'.mt⟩)) (k-1) bk hinj g
    rwa [show 1+(k-1)=k by omega] at this)
  (fun e id h ne=>by
   have hcb':e≠b:=by rintro rfl;rw [hi1] at h;cases h;exact ne (.inl rfl)
   rw [rG _ _ _ _ (fun j h1 h2 ej=>by
    have hj:=hf j (by omega)
    unfold i7 at ej
    rw [if_neg (by omega)] at ej
    subst ej
    have:=(hinv _ _ h).2
    rw [jD hc hj] at this;cases this)]
   simp [St.setB,hcb'])
 refine hK _ _ ⟨by rw [eG];exact hdf,by rw [fU];exact hsz',_,Zr,by rw [eL];exact h1,?_⟩
 refine gL (L:=sV (i7 b d) 1 bs ((L.kill c).setB b (some ⟨blk'.sz,eZ (i7 b d) blk'.vals,blk'.mt⟩))) hd' (fun t=>?_) (hv.ren _ h4)
 rw [xK]
 exact(nU c hr t).mono hrr.zsup h2 h3
end
end Go.Lg
namespace Go.Lg
theorem a7.cellNil {L:St} {b d sz csz:Nat} {m:Bool} {vals vals':List LV} (hne:b≠d) (hd:L.heap d=none) (hb:L.heap b=some ⟨sz,vals,m⟩)
  (hv:∀ (Z:Nat→Prop) (μ:Nat→Option Nat) (w:World) (part:List Value),aM Z μ w sz vals part→aM Z μ w sz vals' part) :
  a7 L ((L.setB d (some ⟨csz,[],true⟩)).setB b (some ⟨sz,vals',m⟩)):=by
 rintro n W X Z0 a w ⟨hdf,hsz,μ,Z,hc,hr⟩
 have hdn:∀ id,μ d≠some id:=fun id e=>by rw [jD hc hd] at e;cases e
 refine⟨hdf,hsz,μ,Z,⟨hc.keep,hc.zone,hc.zsup,hc.zsub,hc.inj,hc.own,hc.x0,hc.xlt,hc.x1,fun c id blk g1 g2 g3=>?_,fun c id blk g1 g2 g3=>?_,fun c id g1=>?_⟩,hr⟩
 ·simp only [St.setB] at g2
  split at g2
  ·rename_i e;subst e;cases g2;exact hc.mutz c id _ g1 hb g3
  ·split at g2
   ·rename_i e;subst e;exact absurd g1 (hdn id)
   ·exact hc.mutz c id blk g1 g2 g3
 ·simp only [St.setB] at g2
  split at g2
  ·rename_i e;subst e;cases g2;exact hc.frz c id _ g1 hb g3
  ·split at g2
   ·rename_i e;subst e;exact absurd g1 (hdn id)
   ·exact hc.frz c id blk g1 g2 g3
 ·obtain⟨bk,j1,cc,T,part,rest,j2,j3,j4⟩:=hc.heap c id g1
  simp only [St.setB]
  split
  ·rename_i e;subst e
   rw [hb] at j1;cases j1
   exact⟨_,rfl,cc,T,part,rest,j2,j3,hv _ _ _ _ j4⟩
  ·split
   ·rename_i e;subst e;exact absurd g1 (hdn id)
   ·exact⟨bk,j1,cc,T,part,rest,j2,j3,j4⟩
theorem aIG {p q:LV} {d c sz:Nat} (Z:Nat→Prop) (μ:Nat→Option Nat) (w:World) (part:List Value) (h:aM Z μ w sz [.agg [p,.v (.slice none 0 0),q]] part):aM Z μ w sz [.agg [p,.ref d c 0 0,q]] part:=by
 simp only [aM,bZ,bV] at h ⊢
 obtain⟨c1,c2,h1,h2,⟨d1,d2,e1,e2,e3,f1,f2,g1,g2,g3,g4⟩,h3⟩:=h
 exact⟨c1,c2,h1,h2,⟨d1,d2,e1,e2,e3,f1,f2,g1,by simpa [LV.csize] using g2,.inl ⟨g3.1,trivial⟩,g4⟩,h3⟩
end Go.Lg
end
section
set_option linter.unusedVariables false
set_option linter.unusedSimpArgs false
set_option maxHeartbeats 8000000
set_option maxRecDepth 100000
attribute [local irreducible] Go.Lg.opsL Go.Lg.wpL Go.Lg.thenL Go.Lg.blockL
namespace Go.Proofs.YtckppbhafancnaaGreat
open Go.Lg
theorem aKt {P:Program} {L:St} {a:Nat} {T:TypeId} {b sz t:Nat} {x y x' y':LV} {m:Bool} {n:Nat} {ag:Bool} {blk:Blk} (h:L.slot a=.eptr b sz 0 0) (hb:L.heap b=some ⟨sz,[x],m⟩)
  (hx:x.csize=sz) (hat:x.at 0 n ag=some x) (hT:bT P T n ag) (hi:ArgM L.heap 0 x y) (h':L.slot t=x') (hi':ArgM L.heap 0 x' y') (hb0:L.heap 0=some blk) (hm:blk.mt=true) (hp:aV blk.vals=true):aAI P [.cell a T,.tmp t] L (.tup [y,y']) blk :=
 ⟨[x,x'],[y,y'],L.heap,.cons ⟨b,sz,0,0,_,x,n,ag,h,hb,rfl,rfl,hx,hat,hT⟩ (.cons h' .nil),cM.le_refl _,.cons hi (.cons hi' .nil),hb0,hm,hp,rfl⟩
def bsj (f:Rat) (v:List Rat) (j:Nat):List Rat:=(List.range v.length).map fun i=>if j<i then v.getD (i-1) 0+f*(v.getD i 0-v.getD (i-1) 0) else v.getD i 0
theorem jG (f:Rat) (v:List Rat) (j:Nat):(bsj f v j).length=v.length:=by simp [bsj]
theorem l7 (f:Rat) (v:List Rat) (j i:Nat) (h:i<v.length):(bsj f v j).getD i 0=if j<i then v.getD (i-1) 0+f*(v.getD i 0-v.getD (i-1) 0) else v.getD i 0:=by
 unfold bsj
 rw [List.getD_eq_getElem?_getD,List.getElem?_map,List.getElem?_range h]
 rfl
theorem aHv {p q:List Rat} (h:p.length=q.length) (hg:∀ i,i<p.length→p.getD i 0=q.getD i 0):p=q:=by
 refine List.ext_getElem h fun i h1 h2=>?_
 have:=hg i h1
 rwa [List.getD_eq_getElem?_getD,List.getD_eq_getElem?_getD,List.getElem?_eq_getElem h1,List.getElem?_eq_getElem h2] at this
theorem aIH (f:Rat) (v:List Rat) (j:Nat) (h:v.length≤j+1):bsj f v j=v :=
 aHv (jG f v j) fun i hi=>by
  rw [jG] at hi
  rw [l7 f v j i hi,if_neg (by omega)]
theorem aHS (f:Rat) (v:List Rat) (j:Nat) (h0:0<j) (h:j<v.length):(bsj f v j).set j (v.getD (j-1) 0+f*(v.getD j 0-v.getD (j-1) 0))=bsj f v (j-1) :=
 aHv (by rw [List.length_set,jG,jG]) fun i hi=>by
  rw [List.length_set,jG] at hi
  rw [l7 f v (j-1) i hi,List.getD_eq_getElem?_getD,List.getElem?_set]
  by_cases e:j=i
  ·subst e
   rw [if_pos rfl,if_pos (by rw [jG];exact h),if_pos (by omega)];rfl
  ·rw [if_neg e,←List.getD_eq_getElem?_getD,l7 f v j i hi]
   by_cases g:j<i
   ·rw [if_pos g,if_pos (by omega)]
   ·rw [if_neg g,if_neg (by omega)]
def oF (F:Rat→Rat) (args v:List Rat):Nat→List Rat
 | 0=>v
 | r+1=>bsj (F (args.getD r 0)) (oF F args v r) r
theorem uA (F:Rat→Rat) (args v:List Rat):∀ r,(oF F args v r).length=v.length
 | 0=>rfl
 | r+1=>by rw [oF,jG,uA F args v r]
theorem aJK {f:Rat} {v:List Rat} {Q R:Nat} (hf:rl f≤Q) (hR:1≤R) (hv:∀ x∈v,rl x≤R) (j:Nat):∀ x∈bsj f v j,rl x≤3*R+Q+2:=fun x hx=>by
 obtain⟨i,hi,rfl⟩:=wD hx
 rw [jG] at hi
 rw [l7 f v j i hi]
 have a:=d7 hR hv i
 have b:=d7 hR hv (i-1)
 split
 ·have h1:=d9 (v.getD i 0) (v.getD (i-1) 0)
  have h2:=bR f (v.getD i 0-v.getD (i-1) 0)
  have h3:=f7 (v.getD (i-1) 0) (f*(v.getD i 0-v.getD (i-1) 0))
  omega
 ·omega
def bfS (Q R:Nat):Nat→Nat
 | 0=>R
 | r+1=>3*bfS Q R r+Q+2
theorem aC8 {Q R:Nat} (hR:1≤R):∀ r,1≤bfS Q R r
 | 0=>hR
 | r+1=>by have:=aC8 (Q:=Q) hR r;unfold bfS;omega
theorem aAV {Q R:Nat} (hR:1≤R):∀ {r s},r≤s→bfS Q R r≤bfS Q R s
 | r,0,h=>by
         obtain rfl:r=0:=by omega
         exact Nat.le_refl _
 | r,s+1,h=>by
  rcases Nat.lt_or_ge s r with g | g
  ·obtain rfl:r=s+1:=by omega
   exact Nat.le_refl _
  ·have:=aAV (Q:=Q) hR (r:=r) (s:=s) g
   show _≤3*bfS Q R s+Q+2
   omega
theorem aER {F:Rat→Rat} {args v:List Rat} {Q R:Nat} (hQ:∀ t∈args,rl (F t)≤Q) (hR:1≤R) (hv:∀ x∈v,rl x≤R):∀ r,r≤args.length→∀ x∈oF F args v r,rl x≤bfS Q R r
 | 0,_=>hv
 | r+1,h=>aJK (hQ _ (cD (show r<args.length by omega))) (aC8 hR r) (aER hQ hR hv r (by omega)) r
def blo (d:Nat) (a b:Rat) (v args:List Rat):Rat:=(oF (fun t=>(t-a)/(b-a)) args v d).getD d 0
theorem aFF (v:List Rat) (j i:Nat) (h:i<v.length) (hj:j<i):(bsj 0 v j).getD i 0=v.getD (i-1) 0:=by
 rw [l7 _ _ _ _ h,if_pos hj];grind
theorem aH3 (v:List Rat) (j:Nat):bsj 1 v j=v:=aHv (jG _ _ _) fun i hi=>by
 rw [jG] at hi
 rw [l7 _ _ _ _ hi];split<;>grind
theorem aE3 {a b:Rat} {args v:List Rat} (n:Nat) (hA:∀ r,r<n→args.getD r 0=a):∀ r,r≤n→∀ i,i<v.length→r≤i→(oF (fun t=>(t-a)/(b-a)) args v r).getD i 0=v.getD (i-r) 0
 | 0,_,i,_,_=>rfl
 | r+1,h,i,hi,hr=>by
  have ih:=aE3 (b:=b) (v:=v) n hA r (by omega) (i-1) (by omega) (by omega)
  rw [oF,hA r (by omega),show (a-a)/(b-a)=0 by rw [Rat.sub_self,Rat.div_def,Rat.zero_mul],aFF _ _ _ (by rw [uA];exact hi) (by omega),ih]
  congr 1;omega
theorem aFh {a b:Rat} (hab:a≠b) {args v:List Rat} (n:Nat) (hB:∀ r,n≤r→r<args.length→args.getD r 0=b):∀ k,n+k≤args.length→oF (fun t=>(t-a)/(b-a)) args v (n+k)=oF (fun t=>(t-a)/(b-a)) args v n
 | 0,_=>rfl
 | k+1,h=>by
  have ih:=aFh hab (v:=v) n hB k (by omega)
  rw [←Nat.add_assoc,oF,hB (n+k) (by omega) (by omega),show (b-a)/(b-a)=1 by rw [Rat.div_def];exact Rat.mul_inv_cancel _ (by grind),aH3,ih]
theorem aGY {d j:Nat} {a b:Rat} (hj:j≤d):((cN d a b).drop (j+1)).take d=List.replicate (d-j) a++List.replicate j b:=by
 have hl:(((cN d a b).drop (j+1)).take d).length=d:=by rw [List.length_take,List.length_drop,eT];omega
 refine aHv (by rw [hl,List.length_append,List.length_replicate,List.length_replicate];omega) fun i hi=>?_
 rw [hl] at hi
 rw [List.getD_eq_getElem?_getD,List.getElem?_take_of_lt hi,List.getElem?_drop,←List.getD_eq_getElem?_getD,dK _ _ _ _ (by omega)]
 by_cases g:i<d-j
 ·rw [if_pos (by omega),gD1 (by simpa using g),lL g]
 ·rw [if_neg (by omega),gD2 (by simp;omega),List.length_replicate,lL (by omega)]
theorem uK {d j:Nat} {a b:Rat} (hab:a<b) {v:List Rat} (hv:v.length=d+1) (hj:j≤d):blo d a b v (((cN d a b).drop (j+1)).take d)=v.getD j 0:=by
 rw [aGY hj,blo]
 have hal:(List.replicate (d-j) a++List.replicate j b).length=d:=by simp;omega
 have h1:=aFh (a:=a) (b:=b) (by grind) (args:=List.replicate (d-j) a++List.replicate j b) (v:=v) (d-j) (fun r g1 g2=>by rw [hal] at g2;rw [gD2 (by simpa using g1),List.length_replicate,lL (by omega)]) j (by rw [hal];omega)
 rw [show d-j+j=d by omega] at h1
 rw [h1,aE3 (d-j) (fun r g=>by rw [gD1 (by simpa using g),lL g]) (d-j) (Nat.le_refl _) d (by omega) (by omega)]
 congr 1;omega
namespace Zq85
theorem cK {p q:Prop} (k:q) (e:p=q:=by simp only [e1,e2,e3,e4,p1,p2,p3,q1,q2,q3,l1,t0,t1,r1,r2,r3,r4,Nat.zero_add,Nat.reduceMul,Nat.reduceAdd,b1,b2,b3,b4,b5,b6,i1,i2,i3,i4,i5,i6,Nat.reduceBEq,jU,Rat.add_zero,ers,etk,Nat.zero_add,cJ,eA,dC,List.length_cons,List.length_nil,List.nil_append,List.map_nil,List.take_nil,List.append_nil,List.set_cons_zero,List.set_cons_succ,Nat.reduceEqDiff,reduceIte,if_true,if_false,a8,a9,aC cW,aC dR,aC aD,aT,a6,LV.kill,bH];exact rfl):p:=e.mpr k
end Zq85
open Zq85 in
theorem aFH (p:List Rat) (hl:p.length≤1048576) (hpr:∀ x∈p,rl x≤274877906944):gM Tryz.prog 157 [.list 3 (p.map ratL)] (.ref 1 3 0 p.length) [⟨3,p.map ratL,true⟩]:=by
 refine fnO Tryz.func157 ?_
 have ers:True:=trivial
 have etk:True:=trivial
 refine eP ?_
 refine b9 rfl rfl (.mkE (n:=0) (m:=p.length) ml ml om om om) ?_
 refine cH ?_
 refine lO (fun(k:Nat) L=>(((((St.mk L.slot (hp [(8,⟨3,(p.take k).map ratL,true⟩)])).put (some 3) (.ref 8 3 0 k)).put (some 9) (.list 3 (p.map ratL))).put (some 10) (aG p.length)).put (some 11) (aG k))) (fun k=>k≤p.length) (fun k=>p.length-k) 0 (Nat.zero_le _) ?_
 rintro k L1 hk
 refine bY ?_
 refine aQ rfl (fun h12r h12=>?_) (fun h12r h12=>?_)
 ·have hk2:k<p.length:=by omega
  have hrk:=hpr _ (cD hk2)
  have hA:=eF (p.getD k 0) 0 (by rw [show rl 0=1 from rfl];omega)
  rw [Rat.add_zero] at hA
  have ers:=lM (l:=p) hk2
  have etk:((p.take k).map ratL).take k=(p.take k).map ratL:=List.take_of_length_le (by rw [List.length_map,List.length_take];omega)
  refine iR ?_
  refine aB rfl (.build0 sP i9) ?_
  refine cp bI (hA) ?_
  refine bD ?_
  refine bC rfl (.appX (d:=8) (news:=[ratL (p.getD k 0)]) rfl rfl rfl rfl (by simp;omega) (.inl rfl) (by decide) Tryz.underlying25 Tryz.underlying25 i9 dD rfl B31 (.inl ⟨19,0,_,rfl,by decide,rfl,rfl,by simp,rfl,by simp [aV,aD.pure]⟩) (by simp;omega) (by simp;omega) (by decide)) ?_
  refine cB ?_
  refine bG ((a7.kill _ 5).trans (a7.kill _ 19)) ?_
  refine aB rfl (.bin rfl rfl (dA (by omega))) ?_
  refine dI ?_
  exact kE (k+1) (by omega)
 ·obtain rfl:k=p.length:=by omega
  have hE:p.take p.length=p:=List.take_length
  refine cH ?_
  rw [hE]
  exact rV rfl rfl (aF aD _)
theorem aIi (p:List Rat) (hl:p.length≤1048576) (hpr:∀ x∈p,rl x≤274877906944):aN Tryz.prog 157 [.list 3 (p.map ratL)] (.list 3 (p.map ratL)):=r9 (aFH p hl hpr) (aF aD _) (by simp)
namespace Zq113
theorem cK {p q:Prop} (k:q) (e:p=q:=by simp only [e1,e2,e3,e4,p1,p2,p3,q1,q2,q3,l1,t0,t1,r1,r2,r3,r4,Nat.zero_add,Nat.reduceMul,Nat.reduceAdd,b1,b2,b3,b4,b5,b6,i1,i2,i3,i4,i5,i6,Nat.reduceBEq,List.set_cons_zero,List.set_cons_succ,Nat.reduceEqDiff,reduceIte,if_true,if_false,a8,a9,aC cW,aC dR,aC aD,aT,a6,LV.kill,bH];exact rfl):p:=e.mpr k
end Zq113
open Zq113 in
theorem aJM (a b t:Rat) (h:rl a+rl b+rl t≤100000) (hab:a<b):aN Tryz.prog 289 [ratL a,ratL b,ratL t] (ratL ((t-a)/(b-a))):=by
 have h1:=d9 t a
 have h2:=d9 b a
 have hQ:aN Tryz.prog 169 [ratL (t-a),ratL (b-a)] (.tup [ratL ((t-a)/(b-a)),iL 0]):=by
  have:=mD (t-a) (b-a) (by omega)
  rwa [if_neg (by grind)] at this
 refine dJ Tryz.func289 ?_
 refine eP ?_
 refine dH 11 [9] (by decide +kernel) ?_
 refine cU ?_
 refine cp bI (iX t a (by omega)) ?_
 refine cU ?_
 refine cp bI (iX b a (by omega)) ?_
 refine cp bI (hQ) ?_
 refine iR ?_
 exact dE [] rfl rfl rfl (aD.csize _) (aH _) dD (.pure (aD.pure _))
namespace Zq124
theorem cK {p q:Prop} (k:q) (e:p=q:=by simp only [e1,e2,e3,e4,p1,p2,p3,q1,q2,q3,l1,t0,t1,r1,r2,r3,r4,Nat.zero_add,Nat.reduceMul,Nat.reduceAdd,b1,b2,b3,b4,b5,b6,i1,i2,i3,i4,i5,i6,Nat.reduceBEq,jU,hkl,List.length_map,List.set_cons_zero,List.set_cons_succ,Nat.reduceEqDiff,reduceIte,if_true,if_false,a8,a9,aC cW,aC dR,aC aD,aT,a6,LV.kill,bH];exact rfl):p:=e.mpr k
end Zq124
open Zq124 in
theorem aGF (d:Nat) (a b:Rat) (j:Nat) (hab:a<b) (ha:rl a≤100) (hb:rl b≤100) (h9:d≤6) (hj:j≤d):aN Tryz.prog 241 [.list 3 ((cN d a b).map ratL),aG j] (aG d):=by
 have hkl:=eT d a b
 have hlo:=lH d a b
 have hhi:=mF d a b
 refine dJ Tryz.func241 ?_
 refine dP ?_
 refine lO (fun(i:Nat) L=>(((St.mk L.slot (hp [])).put (some 0) (.list 3 ((cN d a b).map ratL))).put (some 1) (aG i))) (fun i=>i≤d) (fun i=>d-i) j hj ?_
 rintro i L1 hi
 have hA:i<d→¬g6 ((cN d a b).getD i 0) ((cN d a b).getD (i+1) 0)<0:=fun g=>by
  rw [dK _ _ _ _ (by omega),dK _ _ _ _ (by omega),if_pos (by omega),if_pos (by omega)]
  exact fun e=>by have:=l9.2 (show a≤a by grind);omega
 have hB:i=d→g6 ((cN d a b).getD i 0) ((cN d a b).getD (i+1) 0)<0:=fun g=>by
  rw [dK _ _ _ _ (by omega),dK _ _ _ _ (by omega),if_pos (by omega),if_neg (by omega)]
  exact oP.2 hab
 have hri:=s8 (d:=d) ha hb
 have hr1:=hri _ (cD (p:=cN d a b) (i:=i) (by omega))
 have hr2:=hri _ (cD (p:=cN d a b) (i:=i+1) (by omega))
 refine cU ?_
 refine aP 18 (by decide +kernel) ?_
 refine bD ?_
 refine aB rfl (.bin rfl rfl (dA (by omega))) ?_
 refine cB ?_
 refine aB (aO (v:=true) rfl rfl ((decide_eq_true (by first | omega | (simp only [List.length_map,hkl];omega)))) rfl) (.move _) ?_
 refine aB (aO (v:=true) rfl rfl ((decide_eq_true (by first | omega | (simp only [List.length_map,hkl];omega)))) rfl) (.move _) ?_
 refine aB (aO (v:=true) rfl rfl ((decide_eq_true (by first | omega | (simp only [List.length_map,hkl];omega)))) rfl) ixA ?_
 refine aB (aO (v:=true) rfl rfl ((decide_eq_true (by first | omega | (simp only [List.length_map,hkl];omega)))) rfl) rX ?_
 refine aB (aO (v:=true) rfl rfl ((decide_eq_true (by first | omega | (simp only [List.length_map,hkl];omega)))) rfl) (.move _) ?_
 refine aB (aO (v:=true) rfl rfl ((decide_eq_true (by first | omega | (simp only [List.length_map,hkl];omega)))) rfl) (.move _) ?_
 refine aB (aO (v:=true) rfl rfl ((decide_eq_true (by first | omega | (simp only [List.length_map,hkl];omega)))) rfl) (.bin rfl rfl (dA (by omega))) ?_
 refine aB (aO (v:=true) rfl rfl ((decide_eq_true (by first | omega | (simp only [List.length_map,hkl];omega)))) rfl) ixA ?_
 refine aB (aO (v:=true) rfl rfl ((decide_eq_true (by first | omega | (simp only [List.length_map,hkl];omega)))) rfl) rX ?_
 try simp only [t1,jU]
 refine cY (aO (v:=true) rfl rfl ((decide_eq_true (by first | omega | (simp only [List.length_map,hkl];omega)))) rfl) (.cons nJ (.cons nJ .nil)) (iN ((cN d a b).getD i 0) ((cN d a b).getD (i+1) 0) (by omega)) ?_
 refine aB (aO (v:=true) rfl rfl ((decide_eq_true (by first | omega | (simp only [List.length_map,hkl];omega)))) rfl) (.bin rfl rfl rfl) ?_
 refine aB rfl (.pickT rfl ((decide_eq_true (by first | omega | (simp only [List.length_map,hkl];omega))))) ?_
 refine cU ?_
 refine aQ rfl (fun h22r h22=>?_) (fun h22r h22=>?_)
 ·have rC:i<d:=by
   rcases Nat.lt_or_ge i d with g | g
   ·exact g
   ·have:=hB (by omega)
    omega
  refine dX ?_
  refine aB rfl (.bin rfl rfl (dA (by omega))) ?_
  refine cB ?_
  exact kE (i+1) (by omega)
 ·obtain rfl:i=d:=by
   rcases Nat.lt_or_ge i d with g | g
   ·have:=hA g
    omega
   ·omega
  refine cH ?_
  exact b8 rfl (.pure rfl)
namespace Zq38
theorem cK {p q:Prop} (k:q) (e:p=q:=by simp only [e1,e2,e3,e4,p1,p2,p3,q1,q2,q3,l1,t0,t1,r1,r2,r3,r4,Nat.zero_add,Nat.reduceMul,Nat.reduceAdd,b1,b2,b3,b4,b5,b6,i1,i2,i3,i4,i5,i6,Nat.reduceBEq,hkl,hlo,hhi,hix,hix2,List.length_map,jU,List.set_cons_zero,List.set_cons_succ,Nat.reduceEqDiff,reduceIte,if_true,if_false,a8,a9,aC cW,aC dR,aC aD,aT,a6,LV.kill,bH];exact rfl):p:=e.mpr k
end Zq38
open Zq38 in
theorem aIR (d:Nat) (a b t:Rat) (hd:d≤6) (hT:rl a≤100) (hT1:rl b≤100) (ht:rl t≤1000) (h1:a≤t) (h2:t<b):aN Tryz.prog 242 [.list 3 ((cN d a b).map ratL),aG d,ratL t] (.tup [aG d,iL 0]):=by
 have hkl:=eT d a b
 have hlo:=lH d a b
 have hhi:=mF d a b
 have c1:¬g6 t a<0:=fun e=>by have:=l9.2 h1;omega
 have c2:¬g6 t b > 0:=fun e=>by have:=lP.1 e;grind
 have hix:((2*(d+1):Nat):Int).toNat-1=2*(d+1)-1:=by omega
 have hix2:(((2*(d+1):Nat):Int)-1).toNat=2*(d+1)-1:=by omega
 have c3:g6 t b<0:=oP.2 h2
 refine dJ Tryz.func242 (ht:=(gU rfl rfl)) ?_
 refine eP ?_
 refine aP 22 (by decide +kernel) ?_
 refine cB ?_
 refine aB (aO (v:=false) rfl rfl ((beq_eq_false_iff_ne.2 (by omega))) rfl) rX ?_
 refine aB (aO (v:=false) rfl rfl ((beq_eq_false_iff_ne.2 (by omega))) rfl) (.move _) ?_
 refine aB (aO (v:=false) rfl rfl ((beq_eq_false_iff_ne.2 (by omega))) rfl) ixA ?_
 refine aB (aO (v:=false) rfl rfl ((beq_eq_false_iff_ne.2 (by omega))) rfl) rX ?_
 try simp only [t1,jU,hlo]
 refine cY (aO (v:=false) rfl rfl ((beq_eq_false_iff_ne.2 (by omega))) rfl) (.cons nJ (.cons nJ .nil)) (iN t a (by omega)) ?_
 refine aB (aO (v:=false) rfl rfl ((beq_eq_false_iff_ne.2 (by omega))) rfl) (.bin rfl rfl rfl) ?_
 refine aB rfl (.pickF rfl ((beq_eq_false_iff_ne.2 (by omega)))) ?_
 refine bD ?_
 refine aB (aO (v:=false) rfl rfl ((decide_eq_false c1)) rfl) rX ?_
 refine aB (aO (v:=false) rfl rfl ((decide_eq_false c1)) rfl) (.move _) ?_
 refine aB (aO (v:=false) rfl rfl ((decide_eq_false c1)) rfl) (.move _) ?_
 refine aB (aO (v:=false) rfl rfl ((decide_eq_false c1)) rfl) lnA ?_
 refine aB (aO (v:=false) rfl rfl ((decide_eq_false c1)) rfl) (.bin rfl rfl (iJ (by omega) (by omega))) ?_
 refine aB (aO (v:=false) rfl rfl ((decide_eq_false c1)) rfl) ixA ?_
 refine aB (aO (v:=false) rfl rfl ((decide_eq_false c1)) rfl) rX ?_
 try simp only [t1,jU,hkl,hhi,hix2]
 refine cY (aO (v:=false) rfl rfl ((decide_eq_false c1)) rfl) (.cons nJ (.cons nJ .nil)) (iN t b (by omega)) ?_
 refine aB (aO (v:=false) rfl rfl ((decide_eq_false c1)) rfl) (.bin rfl rfl rfl) ?_
 refine aB rfl (.pickF rfl ((decide_eq_false c1))) ?_
 refine cU ?_
 refine bO (b:=_) rfl (decide_eq_false c2) ?_
 refine eX ?_
 refine lO (fun(i:Nat) L=>(((((St.mk L.slot (hp [(5,⟨3,[ratL t],true⟩)])).put (some 0) (.list 3 ((cN d a b).map ratL))).put (some 5) (.eptr 5 3 0 0)).put (some 8) (aG 0)).put (some 9) (aG i))) (fun i=>i≤d) (fun i=>d-i) 0 (Nat.zero_le _) ?_
 rintro i L1 hi
 have hA:i<d→¬g6 ((cN d a b).getD i 0) ((cN d a b).getD (i+1) 0)<0:=fun g=>by
  rw [dK _ _ _ _ (by omega),dK _ _ _ _ (by omega),if_pos (by omega),if_pos (by omega)]
  exact fun e=>by have:=l9.2 (show a≤a by grind);omega
 have hB:i=d→g6 ((cN d a b).getD i 0) ((cN d a b).getD (i+1) 0)<0:=fun g=>by
  rw [dK _ _ _ _ (by omega),dK _ _ _ _ (by omega),if_pos (by omega),if_neg (by omega)]
  exact oP.2 (by grind)
 have hri:=s8 (d:=d) hT hT1
 have hr1:=hri _ (cD (p:=cN d a b) (i:=i) (by omega))
 have hr2:=hri _ (cD (p:=cN d a b) (i:=i+1) (by omega))
 refine cB ?_
 refine aB rfl (.bin rfl rfl (dA (by omega))) ?_
 refine dX ?_
 refine aY (b:=_) rfl (decide_eq_true (by first | omega | (simp only [List.length_map,hkl];omega))) ?_
 refine bY ?_
 refine aP 11 (by decide +kernel) ?_
 refine bY ?_
 refine aB rfl (.bin rfl rfl (dA (by omega))) ?_
 refine cU ?_
 try simp only [t1,jU]
 refine cp bI (iN ((cN d a b).getD i 0) ((cN d a b).getD (i+1) 0) (by omega)) ?_
 refine dI ?_
 refine aQ rfl (fun h49r h49=>?_) (fun h49r h49=>?_)
 ·have rC:i<d:=by
   rcases Nat.lt_or_ge i d with g | g
   ·exact g
   ·have:=hB (by omega)
    omega
  refine bY ?_
  refine aB rfl (.bin rfl rfl (dA (by omega))) ?_
  refine dI ?_
  exact kE (i+1) (by omega)
 ·obtain rfl:i=d:=by
   rcases Nat.lt_or_ge i d with g | g
   ·have:=hA g
    omega
   ·omega
  have hkd1:(cN i a b).getD (i+1) 0=b:=by rw [dK _ _ _ _ (by omega),if_neg (by omega)]
  refine eP ?_
  refine aP 8 (by decide +kernel) ?_
  refine dI ?_
  refine aB rfl (.bin rfl rfl (dA (by omega))) ?_
  refine cU ?_
  try simp only [t1,jU,hkd1]
  refine cp bI (iN t b (by omega)) ?_
  refine dI ?_
  refine aQ rfl (fun h58r h58=>?_) (fun h58r h58=>?_)
  ·refine eX ?_
   exact pM rfl (.pure rfl) rfl (.pure rfl)
  ·omega
namespace Zq7
theorem cK {p q:Prop} (k:q) (e:p=q:=by simp only [e1,e2,e3,e4,p1,p2,p3,q1,q2,q3,l1,t0,t1,r1,r2,r3,r4,Nat.zero_add,Nat.reduceMul,Nat.reduceAdd,b1,b2,b3,b4,b5,b6,i1,i2,i3,i4,i5,i6,Nat.reduceBEq,ebfl,fD,hxd,hxd2,ersS,hkl,hkd,hkd1,hal,hc,ewl,ewj,ewk,ersj,jU,Rat.add_zero,Nat.sub_self,List.drop_zero,List.take_zero,List.nil_append,List.length_map,List.length_replicate,List.append_nil,List.set_cons_zero,List.set_cons_succ,Nat.reduceEqDiff,reduceIte,if_true,if_false,a8,a9,aC cW,aC dR,aC aD,aT,a6,LV.kill,bH];exact rfl):p:=e.mpr k
end Zq7
open Zq7 in
theorem aAb (d:Nat) (a b:Rat) (c args:List Rat) (R:Nat) (h9:d≤6) (hab:a<b) (ha:rl a≤100) (hb:rl b≤100) (hc:c.length=d+1) (hal:args.length=d) (hR1:1≤R) (hR:R≤10000000) (hcR:∀ x∈c,rl x≤R) (hA:∀ t∈args,rl t≤100):fZ Tryz.prog 280 ⟨3,c.map ratL,true⟩ [.list 3 ((cN d a b).map ratL),aG d,.ref 0 3 0 (d+1),aG d,.list 3 (args.map ratL)] (.tup [ratL (blo d a b c args),iL 0]) ⟨3,c.map ratL,true⟩:=by
 have hkl:=eT d a b
 have hlo:=lH d a b
 have hhi:=mF d a b
 have hs9:bfS 402 R 6≤10000000000:=by simp only [bfS];omega
 have hQ:∀ t∈args,rl ((fun t=>(t-a)/(b-a)) t)≤402:=fun t ht=>by
  have h1:=iZ (t-a) (b-a)
  have h2:=d9 t a
  have h3:=d9 b a
  have h4:=hA t ht
  show rl ((t-a)/(b-a))≤402
  omega
 have hBR:∀ r,r≤d→∀ x∈(oF (fun t=>(t-a)/(b-a)) args c r),rl x≤10000000000:=fun r hr x hx=>Nat.le_trans (aER (R:=R) hQ hR1 hcR r (by omega) x hx) (Nat.le_trans (aAV hR1 (show r≤6 by omega)) hs9)
 have hkd:(cN d a b).getD d 0=a:=by rw [dK _ _ _ _ (by omega),if_pos (by omega)]
 have hkd1:(cN d a b).getD (d+1) 0=b:=by rw [dK _ _ _ _ (by omega),if_neg (by omega)]
 have c1:¬g6 a b≥0:=fun e=>by have:=l9.1 e;grind
 have hpa:=aJ aD 3 args
 have hxd:((List.replicate (d+1) (0:Rat)).map ratL).drop (0+(c.map ratL).length)=[]:=List.drop_of_length_le (by simp;omega)
 have hxd2:((List.replicate (d+1) (0:Rat)).map ratL).drop (d+1)=[]:=List.drop_of_length_le (by simp)
 have hlst:=d7 (by decide) (hBR d (Nat.le_refl _)) d
 have hAd:=eF ((oF (fun t=>(t-a)/(b-a)) args c d).getD d 0) 0 (by have:rl 0=1:=rfl;omega)
 rw [Rat.add_zero] at hAd
 have hpk:=aJ aD 3 (cN d a b)
 refine fnM Tryz.func280 ?_
 have ebfl:True:=trivial
 have ersS:True:=trivial
 have ewl:True:=trivial
 have ewj:True:=trivial
 have ewk:True:=trivial
 have ersj:True:=trivial
 refine eX ?_
 refine cp bI (vR (cN d a b) d (by omega) (by omega)) ?_
 refine cU ?_
 refine aB (aO (v:=false) rfl rfl ((bne_eq_false_iff_eq.2 (by first | omega | (simp only [List.length_map,hkl];omega)))) rfl) (.move _) ?_
 refine aB (aO (v:=false) rfl rfl ((bne_eq_false_iff_eq.2 (by first | omega | (simp only [List.length_map,hkl];omega)))) rfl) lnA ?_
 refine aB (aO (v:=false) rfl rfl ((bne_eq_false_iff_eq.2 (by first | omega | (simp only [List.length_map,hkl];omega)))) rfl) (.move _) ?_
 refine aB (aO (v:=false) rfl rfl ((bne_eq_false_iff_eq.2 (by first | omega | (simp only [List.length_map,hkl];omega)))) rfl) (.bin rfl rfl rfl) ?_
 refine aB rfl (.pickF rfl ((bne_eq_false_iff_eq.2 (by first | omega | (simp only [List.length_map,hkl];omega))))) ?_
 refine dI ?_
 refine bO (b:=_) rfl (bne_eq_false_iff_eq.2 (by first | omega | (simp only [List.length_map,hal];omega))) ?_
 refine bD ?_
 refine aP 23 (by decide +kernel) ?_
 refine cB ?_
 refine aB (aO (v:=false) rfl rfl ((decide_eq_false (by omega))) rfl) (.move _) ?_
 refine aB (aO (v:=false) rfl rfl ((decide_eq_false (by omega))) rfl) (.move _) ?_
 refine aB (aO (v:=false) rfl rfl ((decide_eq_false (by omega))) rfl) lnA ?_
 refine aB (aO (v:=false) rfl rfl ((decide_eq_false (by omega))) rfl) (.bin rfl rfl rfl) ?_
 refine aB rfl (.pickF rfl ((decide_eq_false (by omega)))) ?_
 refine bD ?_
 refine aB (aO (v:=false) rfl rfl ((decide_eq_false (by omega))) rfl) (.move _) ?_
 refine aB (aO (v:=false) rfl rfl ((decide_eq_false (by omega))) rfl) (.move _) ?_
 refine aB (aO (v:=false) rfl rfl ((decide_eq_false (by omega))) rfl) ixA ?_
 refine aB (aO (v:=false) rfl rfl ((decide_eq_false (by omega))) rfl) rX ?_
 refine aB (aO (v:=false) rfl rfl ((decide_eq_false (by omega))) rfl) (.move _) ?_
 refine aB (aO (v:=false) rfl rfl ((decide_eq_false (by omega))) rfl) (.move _) ?_
 refine aB (aO (v:=false) rfl rfl ((decide_eq_false (by omega))) rfl) (.bin rfl rfl (dA (by omega))) ?_
 refine aB (aO (v:=false) rfl rfl ((decide_eq_false (by omega))) rfl) ixA ?_
 refine aB (aO (v:=false) rfl rfl ((decide_eq_false (by omega))) rfl) rX ?_
 try simp only [t1,jU,hkd,hkd1]
 refine cY (aO (v:=false) rfl rfl ((decide_eq_false (by omega))) rfl) (.cons nJ (.cons nJ .nil)) (iN a b (by omega)) ?_
 refine aB (aO (v:=false) rfl rfl ((decide_eq_false (by omega))) rfl) (.bin rfl rfl rfl) ?_
 refine aB rfl (.pickF rfl ((decide_eq_false (by omega)))) ?_
 refine dI ?_
 refine bO (b:=_) rfl (decide_eq_false c1) ?_
 refine bY ?_
 refine aB rfl (.bin rfl rfl (dA (by omega))) ?_
 refine b9 rfl rfl (.mkE (n:=d+1) (m:=d+1) ml ml om om om) ?_
 refine eP ?_
 refine aB rfl (.bin rfl rfl (aCL (a:=d) (b:=d) (c:=0) (by omega) (by omega))) ?_
 refine aB rfl (.sliceR (a:=0) (h:=d+1) rfl Tryz.underlying25 dD (fun y hy=>by cases hy;exact⟨_,rfl⟩) (fun h=>by cases h) (fun y hy=>by cases hy) (fun _=>rfl) om om om) ?_
 refine bC rfl (.cpy (b:=58) (off:=0) (sz:=3) (news:=c.map ratL) (by rw [List.length_map,hc];exact rfl) rfl rfl rfl (by simp [hc]) Tryz.underlying25 Tryz.underlying25 dD (.inl ⟨0,0,_,(by rw [List.length_map,hc];exact rfl),rfl,rfl,by simp [hc],by rw [List.drop_zero,List.take_length]⟩)) ?_
 refine cQ ?_
 refine lO (fun(r:Nat) L=>(((((((((St.mk L.slot (hp [(0,⟨3,c.map ratL,true⟩),(10,⟨3,[ratL 0],true⟩),(58,⟨3,(oF (fun t=>(t-a)/(b-a)) args c r).map ratL,true⟩)])).put (some 0) (.list 3 ((cN d a b).map ratL))).put (some 1) (aG d)).put (some 3) (aG d)).put (some 10) (.eptr 10 3 0 0)).put (some 12) (.ref 58 3 0 (d+1))).put (some 66) (.list 3 (args.map ratL))).put (some 67) (aG d)).put (some 68) (aG r))) (fun r=>r≤d) (fun r=>d-r) 0 (Nat.zero_le _) ?_
 rintro r L1 hr
 refine bY ?_
 refine aQ rfl (fun h69r h69=>?_) (fun h69r h69=>?_)
 ·have hr2:r<d:=by omega
  have hrt:=hA _ (cD (p:=args) (i:=r) (by omega))
  have hbl:(oF (fun t=>(t-a)/(b-a)) args c r).length=d+1:=by rw [uA,hc]
  have ersj:bsj ((args.getD r 0-a)/(b-a)) (oF (fun t=>(t-a)/(b-a)) args c r) d=(oF (fun t=>(t-a)/(b-a)) args c r):=aIH _ _ _ (by omega)
  have hfr:=aJM a b (args.getD r 0) (by omega) hab
  refine aCu ?_
  refine lO (fun(j:Nat) L=>((((((((((((St.mk L.slot (hp [(0,⟨3,c.map ratL,true⟩),(10,⟨3,[ratL 0],true⟩),(58,⟨3,(bsj ((args.getD r 0-a)/(b-a)) (oF (fun t=>(t-a)/(b-a)) args c r) j).map ratL,true⟩),(14,⟨3,[ratL (args.getD r 0)],true⟩)])).put (some 0) (.list 3 ((cN d a b).map ratL))).put (some 1) (aG d)).put (some 3) (aG d)).put (some 10) (.eptr 10 3 0 0)).put (some 12) (.ref 58 3 0 (d+1))).put (some 13) (aG r)).put (some 14) (.eptr 14 3 0 0)).put (some 15) (aG j)).put (some 66) (.list 3 (args.map ratL))).put (some 67) (aG d)).put (some 68) (aG r))) (fun j=>r≤j∧j≤d) (fun j=>j) d ⟨by omega,Nat.le_refl _⟩ ?_
  rintro j L2 ⟨hj1,hj2⟩
  refine eI ?_
  refine aQ rfl (fun h76r h76=>?_) (fun h76r h76=>?_)
  ·have hj3:r<j:=by omega
   have ewl:(bsj ((args.getD r 0-a)/(b-a)) (oF (fun t=>(t-a)/(b-a)) args c r) j).length=d+1:=by rw [jG,hbl]
   have ewj:(bsj ((args.getD r 0-a)/(b-a)) (oF (fun t=>(t-a)/(b-a)) args c r) j).getD j 0=(oF (fun t=>(t-a)/(b-a)) args c r).getD j 0:=by rw [l7 _ _ _ _ (by omega),if_neg (by omega)]
   have ewk:(bsj ((args.getD r 0-a)/(b-a)) (oF (fun t=>(t-a)/(b-a)) args c r) j).getD (j-1) 0=(oF (fun t=>(t-a)/(b-a)) args c r).getD (j-1) 0:=by rw [l7 _ _ _ _ (by omega),if_neg (by omega)]
   have hv1:=d7 (by decide) (hBR r (by omega)) j
   have hv2:=d7 (by decide) (hBR r (by omega)) (j-1)
   have hfq:rl ((args.getD r 0-a)/(b-a))≤402:=hQ _ (cD (p:=args) (i:=r) (by omega))
   have hdf:=d9 ((oF (fun t=>(t-a)/(b-a)) args c r).getD j 0) ((oF (fun t=>(t-a)/(b-a)) args c r).getD (j-1) 0)
   have hmf:=bR ((args.getD r 0-a)/(b-a)) ((oF (fun t=>(t-a)/(b-a)) args c r).getD j 0-(oF (fun t=>(t-a)/(b-a)) args c r).getD (j-1) 0)
   have ersS:=aHS ((args.getD r 0-a)/(b-a)) (oF (fun t=>(t-a)/(b-a)) args c r) j (by omega) (by omega)
   have hkj:(cN d a b).getD j 0=a:=by rw [dK _ _ _ _ (by omega),if_pos (by omega)]
   have hkh:(cN d a b).getD (j+d-r) 0=b:=by rw [dK _ _ _ _ (by omega),if_neg (by omega)]
   refine eI ?_
   refine aB rfl (.bin rfl rfl (aCL (a:=d) (b:=d) (c:=0) (by omega) (by omega))) ?_
   refine bD ?_
   refine aB rfl (.bin rfl rfl (nW (a:=0) (b:=j) (by omega))) ?_
   refine cB ?_
   refine aP 15 (by decide +kernel) ?_
   refine dP ?_
   refine aB rfl (.bin rfl rfl (nW (a:=j) (b:=d) (by omega))) ?_
   refine bD ?_
   refine aB rfl (.bin rfl rfl (aCL (a:=j+d) (b:=r) (c:=j+d-r) (by omega) (by omega))) ?_
   refine dI ?_
   try simp only [t1,jU,hkj,hkh]
   refine cp nK (hfr) ?_
   refine cB ?_
   refine aP 21 (by decide +kernel) ?_
   refine cB ?_
   refine aB rfl (.bin rfl rfl (iJ (by omega) (by omega))) ?_
   refine eP ?_
   refine aB rfl (.bin rfl rfl (iJ (by omega) (by omega))) ?_
   refine cU ?_
   refine cK ?_
   refine cp bI (iX ((oF (fun t=>(t-a)/(b-a)) args c r).getD j 0) ((oF (fun t=>(t-a)/(b-a)) args c r).getD (j-1) 0) (by omega)) ?_
   refine cp bI (dQ ((args.getD r 0-a)/(b-a)) ((oF (fun t=>(t-a)/(b-a)) args c r).getD j 0-(oF (fun t=>(t-a)/(b-a)) args c r).getD (j-1) 0) (by omega)) ?_
   refine cp bI (eF ((oF (fun t=>(t-a)/(b-a)) args c r).getD (j-1) 0) ((args.getD r 0-a)/(b-a)*((oF (fun t=>(t-a)/(b-a)) args c r).getD j 0-(oF (fun t=>(t-a)/(b-a)) args c r).getD (j-1) 0)) (by omega)) ?_
   refine dX ?_
   refine bG (a7.kill _ 17) ?_
   refine bD ?_
   refine aB rfl (.bin rfl rfl (iJ (by omega) (by omega))) ?_
   refine dI ?_
   exact kE (j-1) ⟨by omega,by omega⟩
  ·obtain rfl:r=j:=by omega
   refine bY ?_
   refine bG (a7.kill _ 14) ?_
   refine aB rfl (.bin rfl rfl (dA (by omega))) ?_
   refine dI ?_
   exact kE (r+1) (by omega)
 ·obtain rfl:d=r:=by omega
  have ebfl:(oF (fun t=>(t-a)/(b-a)) args c d).length=d+1:=by rw [uA,hc]
  refine cQ ?_
  refine cK ?_
  refine aB rfl (.build0 sP i9) ?_
  refine cp bI (hAd) ?_
  refine dX ?_
  exact aKt rfl rfl (aD.csize _) (aH _) dD (.imm (.pure (aD.pure _))) rfl (.imm (.pure rfl)) rfl rfl (aF aD _)
structure Q4 where
 x:Rat
 y:Rat
 z:Rat
 w:Rat
instance:Inhabited Q4:=⟨⟨0,0,0,0⟩⟩
def lD (q:Q4):LV:=.agg [ratL q.x,ratL q.y,ratL q.z,ratL q.w]
theorem rY:EncOK lD 12 true:=⟨fun q=>by simp [lD,LV.csize,aL,aD.csize],fun _=>rfl,fun q=>by simp [lD,LV.pure,aV,aD.pure]⟩
theorem mQ (b:Nat) (q:Q4):(lD q).kill b=lD q:=LV.kill_pure b _ (rY.pure q)
def bd4 (R:Nat) (q:Q4):Prop:=rl q.x≤R∧rl q.y≤R∧rl q.z≤R∧rl q.w≤R
def pol (d:Nat) (a b:Rat) (C:List Q4) (args:List Rat):Q4:=⟨blo d a b (C.map (·.x)) args,blo d a b (C.map (·.y)) args,blo d a b (C.map (·.z)) args,blo d a b (C.map (·.w)) args⟩
theorem i8 {C:List Q4} {i:Nat} (h:i<C.length) (f:Q4→Rat):(C.map f).getD i 0=f (C.getD i default):=by
 rw [List.getD_eq_getElem?_getD,List.getElem?_map,List.getD_eq_getElem?_getD,List.getElem?_eq_getElem h];rfl
theorem aHH {d j:Nat} {a b:Rat} (hab:a<b) {C:List Q4} (hC:C.length=d+1) (hj:j≤d):pol d a b C (((cN d a b).drop (j+1)).take d)=C.getD j default:=by
 unfold pol
 rw [uK hab (by simp [hC]) hj,uK hab (by simp [hC]) hj,uK hab (by simp [hC]) hj,uK hab (by simp [hC]) hj,
  i8 (by omega),i8 (by omega),i8 (by omega),i8 (by omega)]
theorem zZ {A B:List Rat} {i:Nat} (hl:A.length=B.length) (h:i<A.length):(A.take i++B.drop i).set i (A.getD i 0)=A.take (i+1)++B.drop (i+1):=by
 rw [List.set_append_right _ _ (by rw [List.length_take];omega),List.length_take,Nat.min_eq_left (by omega),Nat.sub_self,←lM h,List.append_assoc]
 congr 1
 rw [List.drop_eq_getElem_cons (by omega:i<B.length),List.set_cons_zero];rfl
theorem yE {A B:List Rat} {i:Nat} (hl:A.length=B.length) (h:i≤A.length):(A.take i++B.drop i).length=A.length:=by
 rw [List.length_append,List.length_take,List.length_drop];omega
theorem zP {A B:List Rat} {i:Nat} (hl:A.length=B.length) (h:A.length≤i):A.take i++B.drop i=A:=by
 rw [List.take_of_length_le h,List.drop_of_length_le (by omega),List.append_nil]
theorem aCb {C:List Q4} {k:Nat} (h:k<C.length):C.take k++[C.getD k default]=C.take (k+1):=by
 rw [List.take_add_one,List.getElem?_eq_getElem h,List.getD_eq_getElem?_getD,List.getElem?_eq_getElem h];rfl
theorem aBx {d:Nat} {a b:Rat} {pr:Rat→Bool} (ha:pr a=false) (hb:pr b=true):aCn pr (cN d a b)=((d+1:Nat):Int) :=
 aAy (by rw [eT];omega) (fun j hj=>by
  have:(cN d a b).getD j default=(cN d a b).getD j 0:=rfl
  rw [this,dK _ _ _ _ (by omega),if_pos hj,ha]) (by
  have:(cN d a b).getD (d+1) default=(cN d a b).getD (d+1) 0:=rfl
  rw [this,dK _ _ _ _ (by omega),if_neg (by omega),hb])
theorem oX {P:Program} {dst:Option Tmp} {ty:TypeId} {pos:String} {af:Array Edge} {g:Option (Nat × Bool)} {rest:List Oper} {L:St} {K:St→Prop} {f:FuncId} {xs:Array Operand} {ats:Array TypeId} {args:List LV} {r:LV} {ops:Array Oper} (b:Nat) {blk blk':Blk} (hg:bS ops L ⟨dst,.call ⟨.value (.func f),xs,ats⟩,ty,pos,af,g⟩ true)
  (hb:L.heap b=some blk) (hm:blk.mt=true) (hp:aV blk.vals=true) (ha:ArgML L.heap b (xs.toList.map L.ev) args) (hn:Names b (xs.toList.map L.ev)) (hk:fZ P f blk args r blk')
  (hm':blk'.mt=true) (hp':aV blk'.vals=true) (hr:∀ g,r.ren g=r) (k:opsL P false ops rest ((L.setB b (some blk')).put dst r) K) :
  opsL P false ops (⟨dst,.call ⟨.value (.func f),xs,ats⟩,ty,pos,af,g⟩ :: rest) L K :=
 iO b hg hb hm hp ha hn hk hm' hp' (by rw [hr];exact k)
instance:EC Tryz.prog 159 lD 12 true ⟨0,0,0,0⟩:=⟨rY,aIv,aA1⟩
namespace Zq126
theorem cK {p q:Prop} (k:q) (e:p=q:=by simp only [e1,e2,e3,e4,p1,p2,p3,q1,q2,q3,l1,t0,t1,r1,r2,r3,r4,Nat.zero_add,Nat.reduceMul,Nat.reduceAdd,b1,b2,b3,b4,b5,b6,i1,i2,i3,i4,i5,i6,Nat.reduceBEq,fD,lD,hC,ecl,ect,eend,ewv,jU,List.drop_zero,List.take_zero,List.nil_append,List.length_map,List.length_replicate,mQ,aC rY,List.set_cons_zero,List.set_cons_succ,Nat.reduceEqDiff,reduceIte,if_true,if_false,a8,a9,aC cW,aC dR,aC aD,aT,a6,LV.kill,bH];exact rfl):p:=e.mpr k
end Zq126
open Zq126 in
theorem aIP (d:Nat) (a b:Rat) (C:List Q4) (args:List Rat) (R:Nat) (h9:d≤6) (hab:a<b) (ha:rl a≤100) (hb:rl b≤100) (hC:C.length=d+1) (hal:args.length=d) (hR1:1≤R) (hR:R≤10000000) (hcR:∀ q∈C,bd4 R q) (hA:∀ t∈args,rl t≤100):aN Tryz.prog 243 [.agg [aG d,.list 3 ((cN d a b).map ratL),.list 12 (C.map lD)],aG d,.list 3 (args.map ratL)] (lD (pol d a b C args)):=by
 have hkl:=eT d a b
 have hlo:=lH d a b
 have hhi:=mF d a b
 have hpS:LV.pure (.agg [aG d,.list 3 ((cN d a b).map ratL),.list 12 (C.map lD)])=true:=by simp [LV.pure,aV,aF aD,aF rY]
 have hpk:=aJ aD 3 (cN d a b)
 have hpa:=aJ aD 3 args
 have hm0:∀ x∈(C.map (·.x)),rl x≤R:=fun x hx=>by
  obtain⟨q,hq,rfl⟩:=List.mem_map.1 hx
  exact(hcR q hq).1
 have hm1:∀ x∈(C.map (·.y)),rl x≤R:=fun x hx=>by
  obtain⟨q,hq,rfl⟩:=List.mem_map.1 hx
  exact(hcR q hq).2.1
 have hm2:∀ x∈(C.map (·.z)),rl x≤R:=fun x hx=>by
  obtain⟨q,hq,rfl⟩:=List.mem_map.1 hx
  exact(hcR q hq).2.2.1
 have hm3:∀ x∈(C.map (·.w)),rl x≤R:=fun x hx=>by
  obtain⟨q,hq,rfl⟩:=List.mem_map.1 hx
  exact(hcR q hq).2.2.2
 refine dJ Tryz.func243 (ht:=(fun g=>LV.ren_pure g _ (rY.pure _))) ?_
 have ecl:True:=trivial
 have ect:True:=trivial
 have eend:True:=trivial
 have ewv:True:=trivial
 refine n8 ?_
 refine b9 rfl rfl (.mkE (n:=d+1) (m:=d+1) ml ml om om om) ?_
 refine cG ?_
 refine aK ?_
 refine bY ?_
 refine aY (b:=_) rfl (by decide) ?_
 refine nH ?_
 refine lO (fun(i:Nat) L=>((((((((((((St.mk L.slot (hp [(3,⟨3,[.agg [aG d,.list 3 ((cN d a b).map ratL),.list 12 (C.map lD)]],true⟩),(6,⟨12,[.agg [ratL 0,ratL 0,ratL 0,ratL 0]],true⟩),(7,⟨12,[.agg [ratL 0,ratL 0,ratL 0,ratL 0]],true⟩),(15,⟨3,((C.map (·.x)).take i++(List.replicate (d+1) (0:Rat)).drop i).map ratL,true⟩)])).put (some 1) (aG d)).put (some 2) (.list 3 (args.map ratL))).put (some 3) (.eptr 3 3 0 0)).put (some 6) (.eptr 6 12 0 0)).put (some 7) (.eptr 7 12 0 0)).put (some 8) (.ref 15 3 0 (d+1))).put (some 9) (aG 0)).put (some 16) (aG 0)).put (some 20) (.list 12 (C.map lD))).put (some 21) (aG (d+1))).put (some 22) (aG i))) (fun i=>i≤d+1) (fun i=>d+1-i) 0 (Nat.zero_le _) ?_
 rintro i L2 hi
 refine bY ?_
 refine aQ rfl (fun h23r h23=>?_) (fun h23r h23=>?_)
 ·have rC:i<d+1:=by omega
  have ewv:=i8 (C:=C) (i:=i) (by omega) (·.x)
  have ect:((C.map (·.x)).take i++(List.replicate (d+1) (0:Rat)).drop i).set i ((C.getD i default).x)=(C.map (·.x)).take (i+1)++(List.replicate (d+1) (0:Rat)).drop (i+1):=by
   rw [←ewv]
   exact zZ (by simp [hC]) (by simp [hC];omega)
  have ecl:((C.map (·.x)).take i++(List.replicate (d+1) (0:Rat)).drop i).length=d+1:=by rw [yE (by simp [hC]) (by simp [hC];omega)];simp [hC]
  refine yC ?_
  refine bG (a7.kill _ 11) ?_
  refine aB rfl (.bin rfl rfl (dA (by omega))) ?_
  refine dI ?_
  exact kE (i+1) (by omega)
 ·obtain rfl:i=d+1:=by omega
  have eend:(C.map (·.x)).take (d+1)++(List.replicate (d+1) (0:Rat)).drop (d+1)=(C.map (·.x)):=zP (by simp [hC]) (by simp [hC])
  try simp only [eend]
  refine eX ?_
  refine oX 15 rfl rfl rfl (aF aD _) (.cons (.imm (.pure hpk)) (.cons (.imm (.pure rfl)) (.cons .ref (.cons (.imm (.pure rfl)) (.cons (.imm (.pure hpa)) .nil))))) (.tl (.tl (.ref (Nat.succ_pos _)))) (aAb d a b (C.map (·.x)) args R h9 hab ha hb (by rw [List.length_map,hC]) hal hR1 hR hm0 hA) rfl (aF aD _) (gU (aD.pure _) rfl) ?_
  refine fI ?_
  refine aK ?_
  refine bY ?_
  refine aY (b:=_) rfl (by decide) ?_
  refine nH ?_
  refine lO (fun(i:Nat) L=>((((((((((((St.mk L.slot (hp [(3,⟨3,[.agg [aG d,.list 3 ((cN d a b).map ratL),.list 12 (C.map lD)]],true⟩),(6,⟨12,[.agg [ratL 0,ratL 0,ratL 0,ratL 0]],true⟩),(7,⟨12,[.agg [ratL (blo d a b (C.map (·.x)) args),ratL 0,ratL 0,ratL 0]],true⟩),(15,⟨3,((C.map (·.y)).take i++(C.map (·.x)).drop i).map ratL,true⟩)])).put (some 1) (aG d)).put (some 2) (.list 3 (args.map ratL))).put (some 3) (.eptr 3 3 0 0)).put (some 6) (.eptr 6 12 0 0)).put (some 7) (.eptr 7 12 0 0)).put (some 8) (.ref 15 3 0 (d+1))).put (some 9) (aG 1)).put (some 16) (aG 1)).put (some 20) (.list 12 (C.map lD))).put (some 21) (aG (d+1))).put (some 22) (aG i))) (fun i=>i≤d+1) (fun i=>d+1-i) 0 (Nat.zero_le _) ?_
  rintro i L2 hi
  refine bY ?_
  refine aQ rfl (fun h23r h23=>?_) (fun h23r h23=>?_)
  ·have rC:i<d+1:=by omega
   have ewv:=i8 (C:=C) (i:=i) (by omega) (·.y)
   have ect:((C.map (·.y)).take i++(C.map (·.x)).drop i).set i ((C.getD i default).y)=(C.map (·.y)).take (i+1)++(C.map (·.x)).drop (i+1):=by
    rw [←ewv]
    exact zZ (by simp [hC]) (by simp [hC];omega)
   have ecl:((C.map (·.y)).take i++(C.map (·.x)).drop i).length=d+1:=by rw [yE (by simp [hC]) (by simp [hC];omega)];simp [hC]
   refine yC ?_
   refine bG (a7.kill _ 11) ?_
   refine aB rfl (.bin rfl rfl (dA (by omega))) ?_
   refine dI ?_
   exact kE (i+1) (by omega)
  ·obtain rfl:i=d+1:=by omega
   have eend:(C.map (·.y)).take (d+1)++(C.map (·.x)).drop (d+1)=(C.map (·.y)):=zP (by simp [hC]) (by simp [hC])
   try simp only [eend]
   refine eX ?_
   refine oX 15 rfl rfl rfl (aF aD _) (.cons (.imm (.pure hpk)) (.cons (.imm (.pure rfl)) (.cons .ref (.cons (.imm (.pure rfl)) (.cons (.imm (.pure hpa)) .nil))))) (.tl (.tl (.ref (Nat.succ_pos _)))) (aAb d a b (C.map (·.y)) args R h9 hab ha hb (by rw [List.length_map,hC]) hal hR1 hR hm1 hA) rfl (aF aD _) (gU (aD.pure _) rfl) ?_
   refine fI ?_
   refine aK ?_
   refine bY ?_
   refine aY (b:=_) rfl (by decide) ?_
   refine nH ?_
   refine lO (fun(i:Nat) L=>((((((((((((St.mk L.slot (hp [(3,⟨3,[.agg [aG d,.list 3 ((cN d a b).map ratL),.list 12 (C.map lD)]],true⟩),(6,⟨12,[.agg [ratL 0,ratL 0,ratL 0,ratL 0]],true⟩),(7,⟨12,[.agg [ratL (blo d a b (C.map (·.x)) args),ratL (blo d a b (C.map (·.y)) args),ratL 0,ratL 0]],true⟩),(15,⟨3,((C.map (·.z)).take i++(C.map (·.y)).drop i).map ratL,true⟩)])).put (some 1) (aG d)).put (some 2) (.list 3 (args.map ratL))).put (some 3) (.eptr 3 3 0 0)).put (some 6) (.eptr 6 12 0 0)).put (some 7) (.eptr 7 12 0 0)).put (some 8) (.ref 15 3 0 (d+1))).put (some 9) (aG 2)).put (some 16) (aG 2)).put (some 20) (.list 12 (C.map lD))).put (some 21) (aG (d+1))).put (some 22) (aG i))) (fun i=>i≤d+1) (fun i=>d+1-i) 0 (Nat.zero_le _) ?_
   rintro i L2 hi
   refine bY ?_
   refine aQ rfl (fun h23r h23=>?_) (fun h23r h23=>?_)
   ·have rC:i<d+1:=by omega
    have ewv:=i8 (C:=C) (i:=i) (by omega) (·.z)
    have ect:((C.map (·.z)).take i++(C.map (·.y)).drop i).set i ((C.getD i default).z)=(C.map (·.z)).take (i+1)++(C.map (·.y)).drop (i+1):=by
     rw [←ewv]
     exact zZ (by simp [hC]) (by simp [hC];omega)
    have ecl:((C.map (·.z)).take i++(C.map (·.y)).drop i).length=d+1:=by rw [yE (by simp [hC]) (by simp [hC];omega)];simp [hC]
    refine yC ?_
    refine bG (a7.kill _ 11) ?_
    refine aB rfl (.bin rfl rfl (dA (by omega))) ?_
    refine dI ?_
    exact kE (i+1) (by omega)
   ·obtain rfl:i=d+1:=by omega
    have eend:(C.map (·.z)).take (d+1)++(C.map (·.y)).drop (d+1)=(C.map (·.z)):=zP (by simp [hC]) (by simp [hC])
    try simp only [eend]
    refine eX ?_
    refine oX 15 rfl rfl rfl (aF aD _) (.cons (.imm (.pure hpk)) (.cons (.imm (.pure rfl)) (.cons .ref (.cons (.imm (.pure rfl)) (.cons (.imm (.pure hpa)) .nil))))) (.tl (.tl (.ref (Nat.succ_pos _)))) (aAb d a b (C.map (·.z)) args R h9 hab ha hb (by rw [List.length_map,hC]) hal hR1 hR hm2 hA) rfl (aF aD _) (gU (aD.pure _) rfl) ?_
    refine fI ?_
    refine aK ?_
    refine bY ?_
    refine aY (b:=_) rfl (by decide) ?_
    refine nH ?_
    refine lO (fun(i:Nat) L=>((((((((((((St.mk L.slot (hp [(3,⟨3,[.agg [aG d,.list 3 ((cN d a b).map ratL),.list 12 (C.map lD)]],true⟩),(6,⟨12,[.agg [ratL 0,ratL 0,ratL 0,ratL 0]],true⟩),(7,⟨12,[.agg [ratL (blo d a b (C.map (·.x)) args),ratL (blo d a b (C.map (·.y)) args),ratL (blo d a b (C.map (·.z)) args),ratL 0]],true⟩),(15,⟨3,((C.map (·.w)).take i++(C.map (·.z)).drop i).map ratL,true⟩)])).put (some 1) (aG d)).put (some 2) (.list 3 (args.map ratL))).put (some 3) (.eptr 3 3 0 0)).put (some 6) (.eptr 6 12 0 0)).put (some 7) (.eptr 7 12 0 0)).put (some 8) (.ref 15 3 0 (d+1))).put (some 9) (aG 3)).put (some 16) (aG 3)).put (some 20) (.list 12 (C.map lD))).put (some 21) (aG (d+1))).put (some 22) (aG i))) (fun i=>i≤d+1) (fun i=>d+1-i) 0 (Nat.zero_le _) ?_
    rintro i L2 hi
    refine bY ?_
    refine aQ rfl (fun h23r h23=>?_) (fun h23r h23=>?_)
    ·have rC:i<d+1:=by omega
     have ewv:=i8 (C:=C) (i:=i) (by omega) (·.w)
     have ect:((C.map (·.w)).take i++(C.map (·.z)).drop i).set i ((C.getD i default).w)=(C.map (·.w)).take (i+1)++(C.map (·.z)).drop (i+1):=by
      rw [←ewv]
      exact zZ (by simp [hC]) (by simp [hC];omega)
     have ecl:((C.map (·.w)).take i++(C.map (·.z)).drop i).length=d+1:=by rw [yE (by simp [hC]) (by simp [hC];omega)];simp [hC]
     refine yC ?_
     refine bG (a7.kill _ 11) ?_
     refine aB rfl (.bin rfl rfl (dA (by omega))) ?_
     refine dI ?_
     exact kE (i+1) (by omega)
    ·obtain rfl:i=d+1:=by omega
     have eend:(C.map (·.w)).take (d+1)++(C.map (·.z)).drop (d+1)=(C.map (·.w)):=zP (by simp [hC]) (by simp [hC])
     try simp only [eend]
     refine eX ?_
     refine oX 15 rfl rfl rfl (aF aD _) (.cons (.imm (.pure hpk)) (.cons (.imm (.pure rfl)) (.cons .ref (.cons (.imm (.pure rfl)) (.cons (.imm (.pure hpa)) .nil))))) (.tl (.tl (.ref (Nat.succ_pos _)))) (aAb d a b (C.map (·.w)) args R h9 hab ha hb (by rw [List.length_map,hC]) hal hR1 hR hm3 hA) rfl (aF aD _) (gU (aD.pure _) rfl) ?_
     refine fI ?_
     refine aK ?_
     refine bY ?_
     refine bO (b:=_) rfl (by decide) ?_
     refine cH ?_
     exact dE [] rfl rfl rfl cs (b7 cs rfl) aA1 (.pure (rY.pure (pol d a b C args)))
namespace Zq60
theorem cK {p q:Prop} (k:q) (e:p=q:=by simp only [e1,e2,e3,e4,p1,p2,p3,q1,q2,q3,l1,t0,t1,r1,r2,r3,r4,Nat.zero_add,Nat.reduceMul,Nat.reduceAdd,b1,b2,b3,b4,b5,b6,i1,i2,i3,i4,i5,i6,Nat.reduceBEq,hkl,hkd,ers,etk,hC,ejd,jU,List.length_map,cJ,eA,dC,List.length_cons,List.length_nil,List.nil_append,List.map_nil,List.take_nil,List.append_nil,mQ,aC rY,List.set_cons_zero,List.set_cons_succ,Nat.reduceEqDiff,reduceIte,if_true,if_false,a8,a9,aC cW,aC dR,aC aD,aT,a6,LV.kill,bH];exact rfl):p:=e.mpr k
end Zq60
open Zq60 in
theorem aKU (d:Nat) (a b:Rat) (C:List Q4) (R:Nat) (h9:d≤6) (hab:a<b) (ha:rl a≤100) (hb:rl b≤100) (hC:C.length=d+1) (hR1:1≤R) (hR:R≤10000000) (hcR:∀ q∈C,bd4 R q):aN Tryz.prog 160 [.agg [aG d,.list 3 ((cN d a b).map ratL),.list 12 (C.map lD)],.list 3 ((cN d a b).map ratL)] (.agg [aG d,.list 3 ((cN d a b).map ratL),.list 12 (C.map lD)]):=by
 have hkl:=eT d a b
 have hlo:=lH d a b
 have hhi:=mF d a b
 have hpS:LV.pure (.agg [aG d,.list 3 ((cN d a b).map ratL),.list 12 (C.map lD)])=true:=by simp [LV.pure,aV,aF aD,aF rY]
 have hpk:=aJ aD 3 (cN d a b)
 have hkd:(cN d a b).getD d 0=a:=by rw [dK _ _ _ _ (by omega),if_pos (by omega)]
 have hdd:2*(d+1)-d-1=d+1:=by omega
 have hKP:=vR (cN d a b) d (by omega) (by omega)
 rw [hkl,hdd] at hKP
 refine dJ Tryz.func160 (ht:=(fun g=>LV.ren_pure g _ (by simp [LV.pure,aV,aF aD,aF rY]))) ?_
 have ers:True:=trivial
 have etk:True:=trivial
 have ejd:True:=trivial
 refine aJ6 ?_
 refine cp bI (hKP) ?_
 refine cB ?_
 refine fV ((a7.cell 5 rfl (fun Z μ w cs h=>uD 51 12 _ _ Z μ w cs h)).trans (a7.newB _ 51 12 rfl)) ?_
 refine lO (fun(j:Nat) L=>(((((((St.mk L.slot (hp [(2,⟨3,[.agg [aG d,.list 3 ((cN d a b).map ratL),.list 12 (C.map lD)]],true⟩),(4,⟨3,[.agg [.v (.int .i64 0),.v (.slice none 0 0),.v (.slice none 0 0)]],true⟩),(5,⟨3,[.agg [aG d,.list 3 ((cN d a b).map ratL),.ref 51 12 0 j]],true⟩),(51,⟨12,(C.take j).map lD,true⟩)])).put (some 1) (.list 3 ((cN d a b).map ratL))).put (some 2) (.eptr 2 3 0 0)).put (some 4) (.eptr 4 3 0 0)).put (some 5) (.eptr 5 3 0 0)).put (some 17) (aG (d+1))).put (some 18) (aG j))) (fun j=>j≤d+1) (fun j=>d+1-j) 0 (Nat.zero_le _) ?_
 rintro j L1 hj
 refine bY ?_
 refine aQ rfl (fun h19r h19=>?_) (fun h19r h19=>?_)
 ·have hj2:j<d+1:=by omega
  have ers:=aCb (C:=C) (k:=j) (by omega)
  have etk:((C.take j).map lD).take j=(C.take j).map lD:=List.take_of_length_le (by rw [List.length_map,List.length_take];omega)
  have ejd:((cN d a b).take (j+d+1)).drop (j+1)=((cN d a b).drop (j+1)).take d:=by
   rw [List.drop_take]
   congr 1
   omega
  have hPo:aN Tryz.prog 243 [.agg [aG d,.list 3 ((cN d a b).map ratL),.list 12 (C.map lD)],aG d,.list 3 ((((cN d a b).drop (j+1)).take d).map ratL)] (lD (C.getD j default)):=by
   have:=aIP d a b C (((cN d a b).drop (j+1)).take d) R h9 hab ha hb hC (by rw [List.length_take,List.length_drop,hkl];omega) hR1 hR hcR (fun t ht=>s8 ha hb t (List.mem_of_mem_drop (List.mem_of_mem_take ht)))
   rwa [aHH hab hC (by omega)] at this
  refine eX ?_
  refine cp bI (aGF d a b j hab ha hb h9 (by omega)) ?_
  refine cB ?_
  refine aP 14 (by decide +kernel) ?_
  refine eI ?_
  try simp only [t1,jU,hkd]
  refine cp nK (aIR d a b a h9 ha hb (by omega) (by grind) hab) ?_
  refine dP ?_
  refine aP 15 (by decide +kernel) ?_
  refine bY ?_
  refine aB rfl (.bin rfl rfl (dA (by omega))) ?_
  refine dI ?_
  refine aB rfl (.bin rfl rfl (nW (a:=j) (b:=d) (by omega))) ?_
  refine aB rfl (.bin rfl rfl (dA (by omega))) ?_
  refine aB rfl (.sliceLb (a:=j+1) (h:=j+d+1) aD rfl Tryz.underlying25 dD rfl rfl om om) ?_
  refine cK ?_
  refine cp nK (hPo) ?_
  refine bD ?_
  refine bC rfl (.appX (d:=51) (news:=[lD (C.getD j default)]) rfl rfl rfl rfl (by simp;omega) (.inl rfl) (by decide) Tryz.underlying137 Tryz.underlying137 aIv aA1 cs aJE (.inl ⟨50,0,_,rfl,by decide,rfl,rfl,by simp,rfl,by simp [aV,rY.pure]⟩) (by simp;omega) (by simp;omega) (by decide)) ?_
  refine dX ?_
  refine bG (a7.kill _ 50) ?_
  refine aB rfl (.bin rfl rfl (dA (by omega))) ?_
  refine dI ?_
  exact kE (j+1) (by omega)
 ·obtain rfl:j=d+1:=by omega
  have hE:C.take (d+1)=C:=List.take_of_length_le (by omega)
  simp only [hE]
  refine cH ?_
  exact dE [51] rfl rfl rfl cs (b7 cs rfl) aIM (.agg (.cons (.pure rfl) (.cons (.pure hpk) (.cons (cC (l:=C) rY rfl rfl hC.symm) .nil))))
namespace Zq35
theorem cK {p q:Prop} (k:q) (e:p=q:=by simp only [e1,e2,e3,e4,p1,p2,p3,q1,q2,q3,l1,t0,t1,r1,r2,r3,r4,Nat.zero_add,Nat.reduceMul,Nat.reduceAdd,b1,b2,b3,b4,b5,b6,i1,i2,i3,i4,i5,i6,Nat.reduceBEq,jU,List.set_cons_zero,List.set_cons_succ,Nat.reduceEqDiff,reduceIte,if_true,if_false,a8,a9,aC cW,aC dR,aC aD,aT,a6,LV.kill,bH,List.length_map];exact rfl):p:=e.mpr k
end Zq35
open Zq35 in
theorem aCR (f:Nat) (cap:List LV) (hcp:aV cap=true) (hcs:∀ x∈cap,x.csize=1∧x.isAgg=false) (pr:Rat→Bool) (l:List Rat) (hl:l.length≤1048576) (hf:∀ x∈l,aN Tryz.prog f ([ratL x]++cap) (bL (pr x))):aN Tryz.prog 161 [.list 3 (l.map ratL),.clo f cap] (iL (aCn pr l)):=by
 refine dJ Tryz.func161 ?_
 refine eX ?_
 refine lO (fun(i:Nat) L=>((((((St.mk L.slot (hp [])).put (some 0) (.list 3 (l.map ratL))).put (some 1) (.clo f cap)).put (some 6) (.list 3 (l.map ratL))).put (some 7) (aG l.length)).put (some 8) (aG i))) (fun i=>i≤l.length∧∀ j,j<i→pr (l.getD j default)=false) (fun i=>l.length-i) 0 ⟨Nat.zero_le _,fun j hj=>absurd hj (Nat.not_lt_zero j)⟩ ?_
 rintro i L1 ⟨hi,h0⟩
 refine bY ?_
 refine aQ rfl (fun h9r h9=>?_) (fun h9r h9=>?_)
 ·have rC:i<l.length:=by omega
  have hc:=hf _ (cD rC)
  refine jT ?_
  refine gE [] rfl rfl (.clo (f:=f) (cap:=cap) (args:=[ratL (l.getD i 0)]) rfl (.cons nJ .nil) ⟨hcp,hcs⟩ hc.1 (by decide) (fun _ h=>by cases h)) (hc.2 _) ?_
  refine cU ?_
  refine aQ rfl (fun h16r h16=>?_) (fun h16r h16=>?_)
  ·have hV:aCn pr l=(i:Int):=aAy rC h0 (by first | exact h16r | exact h16)
   refine cH ?_
   rw [hV]
   exact b8 rfl (.pure rfl)
  ·have hn:∀ j,j<i+1→pr (l.getD j default)=false:=fun j hj=>by
    rcases Nat.lt_succ_iff_lt_or_eq.1 hj with e | rfl
    ·exact h0 j e
    ·first | exact h16r | (simpa using h16)
   refine cB ?_
   refine aB rfl (.bin rfl rfl (dA (by omega))) ?_
   refine dI ?_
   exact kE (i+1) ⟨by omega,hn⟩
 ·obtain rfl:i=l.length:=by omega
  refine cQ ?_
  rw [aEk h0]
  exact b8 rfl (.pure rfl)
namespace Zq87
theorem cK {p q:Prop} (k:q) (e:p=q:=by simp only [e1,e2,e3,e4,p1,p2,p3,q1,q2,q3,l1,t0,t1,r1,r2,r3,r4,Nat.zero_add,Nat.reduceMul,Nat.reduceAdd,b1,b2,b3,b4,b5,b6,i1,i2,i3,i4,i5,i6,Nat.reduceBEq,List.set_cons_zero,List.set_cons_succ,Nat.reduceEqDiff,reduceIte,if_true,if_false,a8,a9,aC cW,aC dR,aC aD,aT,a6,LV.kill,bH];exact rfl):p:=e.mpr k
end Zq87
open Zq87 in
theorem aGZ (a x:Rat) (h:rl a+rl x≤100000):aN Tryz.prog 162 [ratL x,.boxp (ratL a)] (bL (decide (g6 x a > 0))):=by
 refine dJ Tryz.func162 ?_
 refine cG ?_
 refine cp bI (iN x a (by omega)) ?_
 refine dX ?_
 exact b8 rfl (.pure rfl)
namespace Zq88
theorem cK {p q:Prop} (k:q) (e:p=q:=by simp only [e1,e2,e3,e4,p1,p2,p3,q1,q2,q3,l1,t0,t1,r1,r2,r3,r4,Nat.zero_add,Nat.reduceMul,Nat.reduceAdd,b1,b2,b3,b4,b5,b6,i1,i2,i3,i4,i5,i6,Nat.reduceBEq,List.set_cons_zero,List.set_cons_succ,Nat.reduceEqDiff,reduceIte,if_true,if_false,a8,a9,aC cW,aC dR,aC aD,aT,a6,LV.kill,bH];exact rfl):p:=e.mpr k
end Zq88
open Zq88 in
theorem aG7 (a x:Rat) (h:rl a+rl x≤100000):aN Tryz.prog 163 [ratL x,.boxp (ratL a)] (bL (decide (g6 x a≥0))):=by
 refine dJ Tryz.func163 ?_
 refine cG ?_
 refine cp bI (iN x a (by omega)) ?_
 refine dX ?_
 exact b8 rfl (.pure rfl)
namespace Zq86
theorem cK {p q:Prop} (k:q) (e:p=q:=by simp only [e1,e2,e3,e4,p1,p2,p3,q1,q2,q3,l1,t0,t1,r1,r2,r3,r4,Nat.zero_add,Nat.reduceMul,Nat.reduceAdd,b1,b2,b3,b4,b5,b6,i1,i2,i3,i4,i5,i6,Nat.reduceBEq,hkl,hlo,hhi,hix,eal,ebl,eap,ebp,hC,hsub,hdz,jU,List.getD_cons_zero,List.getD_cons_succ,List.length_map,List.length_replicate,Nat.sub_self,List.drop_zero,List.replicate_zero,cJ,eA,dC,List.length_cons,List.length_nil,List.nil_append,List.map_nil,List.take_nil,List.append_nil,mQ,aC rY,List.set_cons_zero,List.set_cons_succ,Nat.reduceEqDiff,reduceIte,if_true,if_false,a8,a9,aC cW,aC dR,aC aD,aT,a6,LV.kill,bH];exact rfl):p:=e.mpr k
end Zq86
open Zq86 in
theorem aIx (d:Nat) (a b:Rat) (C:List Q4) (R:Nat) (h9:d≤6) (hab:a<b) (ha:rl a≤100) (hb:rl b≤100) (hC:C.length=d+1) (hR1:1≤R) (hR:R≤10000000) (hcR:∀ q∈C,bd4 R q):aN Tryz.prog 86 [.agg [aG d,.list 3 ((cN d a b).map ratL),.list 12 (C.map lD)],ratL a,ratL b] (.agg [aG d,.list 3 ((cN d a b).map ratL),.list 12 (C.map lD)]):=by
 have hkl:=eT d a b
 have hlo:=lH d a b
 have hhi:=mF d a b
 have hpS:LV.pure (.agg [aG d,.list 3 ((cN d a b).map ratL),.list 12 (C.map lD)])=true:=by simp [LV.pure,aV,aF aD,aF rY]
 have hpk:=aJ aD 3 (cN d a b)
 have hix:(((2*(d+1):Nat):Int)-1).toNat=2*(d+1)-1:=by omega
 have hsub:d+1-(d+1)=0:=Nat.sub_self _
 have hdz:((cN d a b).take (d+1)).drop (d+1)=[]:=List.drop_of_length_le (by rw [List.length_take,hkl];omega)
 have hS1:aN Tryz.prog 156 [ratL a,ratL a] (bL true):=by
  have:=lY a a (by omega)
  rwa [decide_eq_true rfl] at this
 have hS2:aN Tryz.prog 156 [ratL b,ratL a] (bL false):=by
  have:=lY b a (by omega)
  rwa [decide_eq_false (by grind)] at this
 have hS3:aN Tryz.prog 156 [ratL b,ratL b] (bL true):=by
  have:=lY b b (by omega)
  rwa [decide_eq_true rfl] at this
 have hO:=aKU d a b C R h9 hab ha hb hC hR1 hR hcR
 have hkr:=s8 (d:=d) ha hb
 have hI1:aN Tryz.prog 161 [.list 3 ((cN d a b).map ratL),.clo 162 [.boxp (ratL a)]] (aG (d+1)):=by
  have:=aCR 162 [.boxp (ratL a)] (by simp [aV,LV.pure,aD.pure]) (fun x hx=>by rw [List.mem_singleton.1 hx];exact⟨rfl,rfl⟩) (fun x=>decide (g6 x a > 0)) (cN d a b) (by omega) (fun x hx=>aGZ a x (by have:=hkr x hx;omega))
  rwa [aBx (decide_eq_false (fun e=>by have:=lP.1 e;grind)) (decide_eq_true (lP.2 hab))] at this
 have hI2:aN Tryz.prog 161 [.list 3 ((cN d a b).map ratL),.clo 163 [.boxp (ratL b)]] (aG (d+1)):=by
  have:=aCR 163 [.boxp (ratL b)] (by simp [aV,LV.pure,aD.pure]) (fun x hx=>by rw [List.mem_singleton.1 hx];exact⟨rfl,rfl⟩) (fun x=>decide (g6 x b≥0)) (cN d a b) (by omega) (fun x hx=>aG7 b x (by have:=hkr x hx;omega))
  rwa [aBx (decide_eq_false (fun e=>by have:=l9.1 e;grind)) (decide_eq_true (l9.2 (by grind)))] at this
 refine dJ Tryz.func86 (ht:=(fun g=>LV.ren_pure g _ (by simp [LV.pure,aV,aF aD,aF rY]))) ?_
 have eal:True:=trivial
 have ebl:True:=trivial
 have eap:True:=trivial
 have ebp:True:=trivial
 refine yC ?_
 refine aK ?_
 refine bY ?_
 refine aY (b:=_) rfl (by decide) ?_
 refine cH ?_
 refine aP 16 (by decide +kernel) ?_
 refine cB ?_
 refine cK ?_
 refine cp bI (hS1) ?_
 refine bD ?_
 refine cE (aO (v:=true) rfl rfl ((rfl)) rfl) ?_
 refine cE (aO (v:=true) rfl rfl ((rfl)) rfl) ?_
 refine cE (aO (v:=true) rfl rfl ((rfl)) rfl) ?_
 refine cE (aO (v:=true) rfl rfl ((rfl)) rfl) ?_
 refine cE (aO (v:=true) rfl rfl ((rfl)) rfl) ?_
 refine cE (aO (v:=true) rfl rfl ((rfl)) rfl) ?_
 refine cE (aO (v:=true) rfl rfl ((rfl)) rfl) ?_
 refine cK ?_
 refine cE (aO (v:=true) rfl rfl ((rfl)) rfl) ?_
 refine aB rfl (.pickT rfl ((rfl))) ?_
 refine cB ?_
 refine aK ?_
 refine cU ?_
 refine aP 10 (by decide +kernel) ?_
 refine dI ?_
 refine cE (aO (v:=false) rfl rfl ((rfl)) rfl) ?_
 refine cE (aO (v:=false) rfl rfl ((rfl)) rfl) ?_
 refine cE (aO (v:=false) rfl rfl ((rfl)) rfl) ?_
 refine cE (aO (v:=false) rfl rfl ((rfl)) rfl) ?_
 refine cE (aO (v:=false) rfl rfl ((rfl)) rfl) ?_
 refine cE (aO (v:=false) rfl rfl ((rfl)) rfl) ?_
 refine aB rfl (.pickF rfl ((rfl))) ?_
 refine cU ?_
 refine bO (b:=_) rfl (rfl) ?_
 refine bY ?_
 refine bG (a7.kill _ 9) ?_
 refine cB ?_
 refine aK ?_
 refine bY ?_
 refine aY (b:=_) rfl (by decide) ?_
 refine cH ?_
 refine aP 16 (by decide +kernel) ?_
 refine cB ?_
 refine cK ?_
 refine cp bI (hS2) ?_
 refine bD ?_
 refine aB (aO (v:=false) rfl rfl ((rfl)) rfl) rX ?_
 refine aB (aO (v:=false) rfl rfl ((rfl)) rfl) (.move _) ?_
 refine aB (aO (v:=false) rfl rfl ((rfl)) rfl) (.move _) ?_
 refine aB (aO (v:=false) rfl rfl ((rfl)) rfl) lnA ?_
 refine aB (aO (v:=false) rfl rfl ((rfl)) rfl) (.bin rfl rfl (iJ (by omega) (by omega))) ?_
 refine aB (aO (v:=false) rfl rfl ((rfl)) rfl) ixA ?_
 refine aB (aO (v:=false) rfl rfl ((rfl)) rfl) rX ?_
 refine cK ?_
 refine cY (aO (v:=false) rfl rfl ((rfl)) rfl) (.cons nJ (.cons nJ .nil)) (hS3) ?_
 refine aB rfl (.pickF rfl ((rfl))) ?_
 refine cB ?_
 refine aK ?_
 refine cU ?_
 refine aP 10 (by decide +kernel) ?_
 refine dI ?_
 refine cE (aO (v:=false) rfl rfl ((rfl)) rfl) ?_
 refine cE (aO (v:=false) rfl rfl ((rfl)) rfl) ?_
 refine cE (aO (v:=false) rfl rfl ((rfl)) rfl) ?_
 refine cE (aO (v:=false) rfl rfl ((rfl)) rfl) ?_
 refine cE (aO (v:=false) rfl rfl ((rfl)) rfl) ?_
 refine cE (aO (v:=false) rfl rfl ((rfl)) rfl) ?_
 refine aB rfl (.pickF rfl ((rfl))) ?_
 refine cU ?_
 refine bO (b:=_) rfl (rfl) ?_
 refine bY ?_
 refine bG (a7.kill _ 9) ?_
 refine cB ?_
 refine aK ?_
 refine bY ?_
 refine bO (b:=_) rfl (by decide) ?_
 refine eP ?_
 refine cp bI (hO) ?_
 refine nH ?_
 refine gE [4] rfl rfl (.mk (caps:=[.boxp (ratL a)]) (.cons (.eptr rfl rfl rfl (aD.csize _) (aH _) (aD.pure _) rfl) .nil) (fun x hx=>by rw [List.mem_singleton.1 hx];exact⟨rfl,rfl⟩)) rfl ?_
 refine cY rfl (.cons (.pure hpk) (.cons (.pure (show LV.pure (.clo 162 [.boxp (ratL a)])=true by simp [LV.pure,aV,aD.pure])) .nil)) (hI1) ?_
 refine aB rfl (.bin rfl rfl (iJ (by omega) (by omega))) ?_
 refine bY ?_
 refine gE [5] rfl rfl (.mk (caps:=[.boxp (ratL b)]) (.cons (.eptr rfl rfl rfl (aD.csize _) (aH _) (aD.pure _) rfl) .nil) (fun x hx=>by rw [List.mem_singleton.1 hx];exact⟨rfl,rfl⟩)) rfl ?_
 refine cY rfl (.cons (.pure hpk) (.cons (.pure (show LV.pure (.clo 163 [.boxp (ratL b)])=true by simp [LV.pure,aV,aD.pure])) .nil)) (hI2) ?_
 refine eI ?_
 refine aB rfl (.bin rfl rfl (dA (by omega))) ?_
 refine cB ?_
 refine fV ((a7.cell 12 rfl (fun Z μ w cs h=>aAs 74 3 _ _ Z μ w cs h)).trans (a7.newB _ 74 3 rfl)) ?_
 refine lO (fun(m:Nat) L=>((((((((((((St.mk L.slot (hp [(3,⟨3,[.agg [aG d,.list 3 ((cN d a b).map ratL),.list 12 (C.map lD)]],true⟩),(4,⟨3,[ratL a],false⟩),(5,⟨3,[ratL b],false⟩),(6,⟨3,[.agg [.v (.int .i64 0),.v (.slice none 0 0),.v (.slice none 0 0)]],true⟩),(11,⟨3,[.agg [aG d,.list 3 ((cN d a b).map ratL),.list 12 (C.map lD)]],true⟩),(12,⟨3,[.agg [aG d,.ref 74 3 0 m,.v (.slice none 0 0)]],true⟩),(74,⟨3,(List.replicate m a).map ratL,true⟩)])).put (some 3) (.eptr 3 3 0 0)).put (some 4) (.eptr 4 3 0 0)).put (some 5) (.eptr 5 3 0 0)).put (some 6) (.eptr 6 3 0 0)).put (some 7) (.list 3 ((cN d a b).map ratL))).put (some 11) (.eptr 11 3 0 0)).put (some 12) (.eptr 12 3 0 0)).put (some 13) (aG d)).put (some 14) (aG (d+1))).put (some 67) (aG (d+1))).put (some 68) (aG m))) (fun m=>m≤d+1) (fun m=>d+1-m) 0 (Nat.zero_le _) ?_
 rintro m L3 hm
 refine bY ?_
 refine aQ rfl (fun h69r h69=>?_) (fun h69r h69=>?_)
 ·have hm2:m<d+1:=by omega
  have eal:(List.replicate m a++[a])=List.replicate (m+1) a:=by rw [List.replicate_succ']
  have eap:((List.replicate m a).map ratL).take m=(List.replicate m a).map ratL:=List.take_of_length_le (by simp)
  refine eP ?_
  refine bC rfl (.appX (d:=74) (news:=[ratL a]) rfl rfl rfl rfl (by first | (simp;done) | (simp;omega) | omega) (.inl rfl) (by decide) Tryz.underlying25 Tryz.underlying25 i9 dD rfl B31 (.inl ⟨73,0,_,rfl,by decide,rfl,rfl,by simp,rfl,by simp [aV,aD.pure]⟩) (by first | (simp;done) | (simp;omega) | omega) (by first | (simp;done) | (simp;omega) | omega) (by decide)) ?_
  refine dX ?_
  refine bG (a7.kill _ 73) ?_
  refine aB rfl (.bin rfl rfl (dA (by omega))) ?_
  refine dI ?_
  exact kE (m+1) (by omega)
 ·obtain rfl:m=d+1:=by omega
  have eal:True:=trivial
  have eap:((List.replicate (d+1) a).map ratL).take (d+1)=(List.replicate (d+1) a).map ratL:=List.take_of_length_le (by simp)
  refine bY ?_
  refine aP 7 (by decide +kernel) ?_
  refine cB ?_
  refine aB rfl (.bin rfl rfl (dA (by omega))) ?_
  refine bD ?_
  refine aB rfl (.sliceLb (a:=d+1) (h:=d+1) aD rfl Tryz.underlying25 dD rfl rfl om om) ?_
  refine cK ?_
  refine bC rfl (.appX (d:=74) (news:=[]) rfl rfl rfl rfl (by simp) (.inl rfl) (by decide) Tryz.underlying25 Tryz.underlying25 i9 dD rfl B31 (.inr (.inl rfl)) (by first | (simp;done) | (simp;omega) | omega) (by first | (simp;done) | (simp;omega) | omega) (by decide)) ?_
  refine eP ?_
  refine aB rfl (.bin rfl rfl (dA (by omega))) ?_
  refine cB ?_
  refine lO (fun(m:Nat) L=>((((((((((((St.mk L.slot (hp [(3,⟨3,[.agg [aG d,.list 3 ((cN d a b).map ratL),.list 12 (C.map lD)]],true⟩),(4,⟨3,[ratL a],false⟩),(5,⟨3,[ratL b],false⟩),(6,⟨3,[.agg [.v (.int .i64 0),.v (.slice none 0 0),.v (.slice none 0 0)]],true⟩),(11,⟨3,[.agg [aG d,.list 3 ((cN d a b).map ratL),.list 12 (C.map lD)]],true⟩),(12,⟨3,[.agg [aG d,.ref 74 3 0 (d+1+m),.v (.slice none 0 0)]],true⟩),(74,⟨3,(List.replicate (d+1) a++List.replicate m b).map ratL,true⟩)])).put (some 3) (.eptr 3 3 0 0)).put (some 4) (.eptr 4 3 0 0)).put (some 5) (.eptr 5 3 0 0)).put (some 6) (.eptr 6 3 0 0)).put (some 7) (.list 3 ((cN d a b).map ratL))).put (some 11) (.eptr 11 3 0 0)).put (some 12) (.eptr 12 3 0 0)).put (some 13) (aG d)).put (some 14) (aG (d+1))).put (some 88) (aG (d+1))).put (some 89) (aG m))) (fun m=>m≤d+1) (fun m=>d+1-m) 0 (Nat.zero_le _) ?_
  rintro m L4 hm
  refine bY ?_
  refine aQ rfl (fun h90r h90=>?_) (fun h90r h90=>?_)
  ·have hm2:m<d+1:=by omega
   have ebl:(List.replicate (d+1) a++List.replicate m b)++[b]=List.replicate (d+1) a++List.replicate (m+1) b:=by rw [List.append_assoc,←List.replicate_succ']
   have ebp:((List.replicate (d+1) a++List.replicate m b).map ratL).take (d+1+m)=(List.replicate (d+1) a++List.replicate m b).map ratL:=List.take_of_length_le (by simp)
   refine eP ?_
   refine bC rfl (.appX (d:=74) (news:=[ratL b]) rfl rfl rfl rfl (by first | (simp;done) | (simp;omega) | omega) (.inl rfl) (by decide) Tryz.underlying25 Tryz.underlying25 i9 dD rfl B31 (.inl ⟨94,0,_,rfl,by decide,rfl,rfl,by simp,rfl,by simp [aV,aD.pure]⟩) (by first | (simp;done) | (simp;omega) | omega) (by first | (simp;done) | (simp;omega) | omega) (by decide)) ?_
   refine dX ?_
   refine bG (a7.kill _ 94) ?_
   refine aB rfl (.bin rfl rfl (dA (by omega))) ?_
   refine dI ?_
   exact kE (m+1) (by omega)
  ·obtain rfl:m=d+1:=by omega
   have hkE:List.replicate (d+1) a++List.replicate (d+1) b=cN d a b:=rfl
   have hTC:C.take (d+1)=C:=List.take_of_length_le (by omega)
   have hkE2:d+1+(d+1)=2*(d+1):=by omega
   refine cH ?_
   refine aB rfl (.bin rfl rfl (aCL (a:=d) (b:=d) (c:=0) (by omega) (by omega))) ?_
   refine bD ?_
   refine aB rfl (.sliceLb (a:=0) (h:=d+1) rY rfl Tryz.underlying137 aA1 rfl rfl om om) ?_
   refine cQ ?_
   try simp only [hTC,hkE,hkE2]
   exact dE [74] rfl rfl rfl cs (b7 cs rfl) aIM (.agg (.cons (.pure rfl) (.cons (cC (l:=cN d a b) aD rfl rfl (by rw [hkl])) (.cons (.pure (aJ rY 12 _)) .nil))))
section
variable {f:FuncId} {fn:Func} {c:Code} {args:List LV} {r:LV}
theorem fnC {blk c1 blk':Blk} {bs:List Blk} (hf:Tryz.prog.funcs[f]?=some fn)
  (h:wpL Tryz.prog c (fun e L=>match e with | .exit _=>False | _=>aFn Tryz.prog fn.results.toList L r blk' bs) (St.mk (fun t=>args.getD t .any) (hp [(0,blk),(1,c1)])))
  (hb:fn.body=some c:=by exact rfl) (hn:(fn.name== "runtime.NumGoroutine")=false:=by decide +kernel) (hd:fC fn.ntmps c=true:=by decide +kernel) (hlen:args.length≤fn.ntmps:=by exact Nat.le_of_ble_eq_true rfl) (hmt:blk.mt=true:=by exact rfl) (hmt1:c1.mt=true:=by exact rfl):tV Tryz.prog f blk c1 args r blk' bs:=aCw fol hf hb hn hd hlen hmt hmt1 h
end
theorem wF (bs:List Nat) (c:Nat) (y:Blk) (l:List (Nat × Blk)):aCf bs ((c,y) :: l)=(c,⟨y.sz,y.vals,y.mt && !bs.contains c⟩) :: aCf bs l:=rfl
def aLB (d w:Nat):LV:=.agg [aG d,aG w,ratL 0]
theorem aBV {l:List (Rat × Rat)} {k:Nat} (h:k<l.length):l.take k++[l.getD k default]=l.take (k+1):=by
 rw [List.take_add_one,List.getElem?_eq_getElem h,List.getD_eq_getElem?_getD,List.getElem?_eq_getElem h];rfl
theorem aN1 {l:List (Rat × Rat)} {k:Nat} (h:k<l.length):l.getD k default∈l:=by
 rw [List.getD_eq_getElem?_getD,List.getElem?_eq_getElem h];exact List.getElem_mem h
theorem aJW:bA Tryz.prog 147 (jS ([],0,[])):=⟨Tryz.t147,_,by kernel_rfl,rfl,rfl,fun Z μ w=>by
 show bV Z μ w _ _
 exact⟨_,_,rfl,rfl,nA 6,_,_,rfl,rfl,⟨rfl,rfl⟩,_,_,rfl,rfl,nA 1,rfl⟩⟩
instance:EC Tryz.prog 147 jS 3 true ([],0,[]):=⟨boxE,aJW,xC⟩
theorem zH:bA Tryz.prog 51 (jE ([],[],0,0)):=⟨Tryz.t51,_,by kernel_rfl,rfl,rfl,fun Z μ w=>by
 show bV Z μ w _ _
 exact⟨_,_,rfl,rfl,nA 6,_,_,rfl,rfl,nA 6,_,_,rfl,rfl,⟨rfl,rfl⟩,_,_,rfl,rfl,⟨rfl,rfl⟩,rfl⟩⟩
instance:EC Tryz.prog 51 jE 4 true ([],[],0,0):=⟨aEj,zH,T51⟩
theorem aDN:ratL (1/2)=.agg [.v (.bool false),bQ 1,.list 1 ([2].map bX)]:=by
 rw [show (1/2:Rat)=qv false 1 2 from by decide +kernel,rO false (by decide) (by decide)]
 rfl
theorem aLu:(default:Int)=0:=rfl
theorem aK5 (a b:Rat):(a+b)*(1/2)=(a+b)/2:=by grind
namespace Zq66
theorem cK {p q:Prop} (k:q) (e:p=q:=by simp only [e1,e2,e3,e4,p1,p2,p3,q1,q2,q3,l1,t0,t1,r1,r2,r3,r4,Nat.zero_add,Nat.reduceMul,Nat.reduceAdd,b1,b2,b3,b4,b5,b6,i1,i2,i3,i4,i5,i6,Nat.reduceBEq,fz0,wF,List.set_cons_zero,List.set_cons_succ,Nat.reduceEqDiff,reduceIte,if_true,if_false,a8,a9,aC cW,aC dR,aC aD,aT,a6,LV.kill,bH];exact rfl):p:=e.mpr k
end Zq66
open Zq66 in
theorem aJ9 (a b:Rat) (h:rl a+rl b≤100000):aN Tryz.prog 192 [ratL a,ratL b] (ratL ((a+b)/2)):=by
 have hz:=f7 a b
 have hh:rl (1/2)=1:=by decide +kernel
 have hM:=dQ (a+b) (1/2) (by omega)
 rw [aK5] at hM
 refine dJ Tryz.func192 ?_
 refine cQ ?_
 refine cp bI (eF a b (by omega)) ?_
 refine cp am0 (aGt) ?_
 refine cU ?_
 try refine cK ?_
 refine pJ [9] rfl rfl (.cons (.pure (aD.pure _)) (.cons (show Imm _ _ (ratL (1/2)) from aDN ▸ .agg (.cons (.pure rfl) (.cons (.pure rfl) (.cons (cC cV rfl rfl rfl) .nil)))) .nil)) hM ?_
 refine cB ?_
 exact dE [] rfl rfl rfl (aD.csize _) (aH _) dD (.pure (aD.pure _))
namespace Zq77
theorem cK {p q:Prop} (k:q) (e:p=q:=by simp only [e1,e2,e3,e4,p1,p2,p3,q1,q2,q3,l1,t0,t1,r1,r2,r3,r4,Nat.zero_add,Nat.reduceMul,Nat.reduceAdd,b1,b2,b3,b4,b5,b6,i1,i2,i3,i4,i5,i6,Nat.reduceBEq,List.set_cons_zero,List.set_cons_succ,Nat.reduceEqDiff,reduceIte,if_true,if_false,a8,a9,aC cW,aC dR,aC aD,aT,a6,LV.kill,bH];exact rfl):p:=e.mpr k
end Zq77
open Zq77 in
theorem aB8 (s:Rat × Rat) (h:rl s.1+rl s.2≤100000):aN Tryz.prog 105 [spL s] (ratL (pH s)):=by
 refine dJ Tryz.func105 ?_
 refine cH ?_
 refine cp bI (aJ9 s.1 s.2 h) ?_
 refine cB ?_
 exact dE [] rfl rfl rfl (aD.csize _) (aH _) dD (.pure (aD.pure _))
namespace Zq74
theorem cK {p q:Prop} (k:q) (e:p=q:=by simp only [e1,e2,e3,e4,p1,p2,p3,q1,q2,q3,l1,t0,t1,r1,r2,r3,r4,Nat.zero_add,Nat.reduceMul,Nat.reduceAdd,b1,b2,b3,b4,b5,b6,i1,i2,i3,i4,i5,i6,Nat.reduceBEq,List.set_cons_zero,List.set_cons_succ,Nat.reduceEqDiff,reduceIte,if_true,if_false,a8,a9,aC cW,aC dR,aC aD,aT,a6,LV.kill,bH];exact rfl):p:=e.mpr k
end Zq74
open Zq74 in
theorem aEe (s:Rat × Rat) (R:Nat) (hR:R≤10000) (hb:iQ R s) (hle:s.1≤s.2):aN Tryz.prog 166 [spL s] (.tup [spL (loS s),spL (hiS s)]):=by
 obtain⟨a1,a2⟩:=hb
 have hM:=aB8 s (by omega)
 have hz1:=f7 s.1 s.2
 have hz2:=iZ (s.1+s.2) 2
 have hh:rl 2=1:=by decide +kernel
 have em:(s.1+s.2)/2*2=s.1+s.2:=Rat.div_mul_cancel (by decide)
 have hmr:rl (pH s)≤2*R+2:=by unfold pH;omega
 have hl1:s.1≤pH s:=by unfold pH;grind
 have hl2:pH s≤s.2:=by unfold pH;grind
 have hO1:=wO s.1 (pH s) (by omega)
 have hO2:=wO (pH s) s.2 (by omega)
 rw [show (kC s.1 (pH s),jR s.1 (pH s))=loS s from by unfold kC jR loS;rw [if_neg (by grind)];split<;>(first | rfl | (congr 1;grind))] at hO1
 rw [show (kC (pH s) s.2,jR (pH s) s.2)=hiS s from by unfold kC jR hiS;rw [if_neg (by grind)];split<;>(first | rfl | (congr 1;grind))] at hO2
 refine dJ Tryz.func166 (ht:=(gU (d8.pure _) (d8.pure _))) ?_
 refine cG ?_
 refine cp cS (hM) ?_
 refine dX ?_
 refine aP 8 (by decide +kernel) ?_
 refine dI ?_
 refine cp bI (hO1) ?_
 refine dI ?_
 refine cp bI (hO2) ?_
 refine dX ?_
 exact aEY [] rfl rfl rfl (d8.csize _) (fN _) mH (.pure (d8.pure _)) rfl rfl (d8.csize _) (fN _) mH (.pure (d8.pure _))
namespace Zq90
theorem cK {p q:Prop} (k:q) (e:p=q:=by simp only [e1,e2,e3,e4,p1,p2,p3,q1,q2,q3,l1,t0,t1,r1,r2,r3,r4,Nat.zero_add,Nat.reduceMul,Nat.reduceAdd,b1,b2,b3,b4,b5,b6,i1,i2,i3,i4,i5,i6,Nat.reduceBEq,ers,etk,aC d8,List.length_map,cJ,eA,dC,List.length_cons,List.length_nil,List.nil_append,List.map_nil,List.take_nil,List.append_nil,List.set_cons_zero,List.set_cons_succ,Nat.reduceEqDiff,reduceIte,if_true,if_false,a8,a9,aC cW,aC dR,aC aD,aT,a6,LV.kill,bH];exact rfl):p:=e.mpr k
end Zq90
open Zq90 in
theorem xR (l:List (Rat × Rat)) (h0:0<l.length) (hl:l.length≤1000) (hb:∀ s∈l,iQ 1000000 s∧s.1≤s.2):gM Tryz.prog 87 [.list 6 (l.map spL)] (.ref 1 6 0 l.length) [⟨6,l.map spL,true⟩]:=by
 refine fnO Tryz.func87 ?_
 have ers:True:=trivial
 have etk:True:=trivial
 refine qG ?_
 refine fV (a7.own (t:=3) 19 6 rfl rfl) ?_
 refine lO (fun(k:Nat) L=>(((((St.mk L.slot (hp [(19,⟨6,(l.take k).map spL,true⟩)])).put (some 3) (.ref 19 6 0 k)).put (some 6) (.list 6 (l.map spL))).put (some 7) (aG l.length)).put (some 8) (aG k))) (fun k=>k≤l.length) (fun k=>l.length-k) 0 (Nat.zero_le _) ?_
 rintro k L1 hk
 refine bY ?_
 refine aQ rfl (fun h9r h9=>?_) (fun h9r h9=>?_)
 ·have hk2:k<l.length:=by omega
  obtain⟨⟨hs1,hs2⟩,hs3⟩:=hb _ (aN1 hk2)
  have ers:=aBV hk2
  have etk:((l.take k).map spL).take k=(l.take k).map spL:=List.take_of_length_le (by rw [List.length_map,List.length_take];omega)
  have hSO:aN Tryz.prog 90 [ratL (l.getD k default).1,ratL (l.getD k default).2] (spL (l.getD k default)):=by
   have:=wO (l.getD k default).1 (l.getD k default).2 (by omega)
   have e1x:kC (l.getD k default).1 (l.getD k default).2=(l.getD k default).1:=by unfold kC;split<;>grind
   have e2x:jR (l.getD k default).1 (l.getD k default).2=(l.getD k default).2:=by unfold jR;split<;>grind
   rw [e1x,e2x] at this
   exact this
  refine oB ?_
  refine cp bI (hSO) ?_
  refine bD ?_
  refine bC rfl (.appX (d:=19) (news:=[spL (l.getD k default)]) rfl rfl rfl rfl (by simp;omega) (.inl rfl) (by decide) Tryz.underlying49 Tryz.underlying49 nQ (by rw [d8.isAgg];exact mH) cs B54 (.inl ⟨18,0,_,rfl,by decide,rfl,rfl,by simp,rfl,by simp [aV,d8.pure]⟩) (by simp;omega) (by simp;omega) (by decide)) ?_
  refine cB ?_
  refine bG ((a7.kill _ 5).trans (a7.kill _ 18)) ?_
  refine aB rfl (.bin rfl rfl (dA (by omega))) ?_
  refine dI ?_
  exact kE (k+1) (by omega)
 ·obtain rfl:k=l.length:=by omega
  have hE:l.take l.length=l:=List.take_length
  refine cH ?_
  simp only [hE]
  exact rV rfl rfl (aF d8 _)
namespace Zq133
theorem cK {p q:Prop} (k:q) (e:p=q:=by simp only [e1,e2,e3,e4,p1,p2,p3,q1,q2,q3,l1,t0,t1,r1,r2,r3,r4,Nat.zero_add,Nat.reduceMul,Nat.reduceAdd,b1,b2,b3,b4,b5,b6,i1,i2,i3,i4,i5,i6,Nat.reduceBEq,aLB,List.getD_cons_zero,List.set_cons_zero,List.set_cons_succ,Nat.reduceEqDiff,reduceIte,if_true,if_false,a8,a9,aC cW,aC dR,aC aD,aT,a6,LV.kill,bH];exact rfl):p:=e.mpr k
end Zq133
open Zq133 in
theorem aJn (d w:Nat) (hd:d≤24) (hw:w≤4096):aN Tryz.prog 37 [aLB d w] (bL true):=by
 have hVa:=aFw 0 (by have:rl 0=1:=rfl;omega)
 have hSg:=jF 0 (by have:rl 0=1:=rfl;omega)
 refine dJ Tryz.func37 ?_
 refine cH ?_
 refine aB (aO (v:=true) rfl rfl ((decide_eq_true (by omega))) rfl) faA ?_
 refine aB (aO (v:=true) rfl rfl ((decide_eq_true (by omega))) rfl) rX ?_
 refine aB (aO (v:=true) rfl rfl ((decide_eq_true (by omega))) rfl) (.bin rfl rfl rfl) ?_
 refine aB rfl (.pickT rfl ((decide_eq_true (by omega)))) ?_
 refine bD ?_
 refine aB (aO (v:=true) rfl rfl ((decide_eq_true (by omega))) rfl) faA ?_
 refine aB (aO (v:=true) rfl rfl ((decide_eq_true (by omega))) rfl) rX ?_
 refine aB (aO (v:=true) rfl rfl ((decide_eq_true (by omega))) rfl) (.bin rfl rfl rfl) ?_
 refine aB rfl (.pickT rfl ((decide_eq_true (by omega)))) ?_
 refine bD ?_
 refine aB (aO (v:=true) rfl rfl ((decide_eq_true (by omega))) rfl) faA ?_
 refine aB (aO (v:=true) rfl rfl ((decide_eq_true (by omega))) rfl) rX ?_
 refine aB (aO (v:=true) rfl rfl ((decide_eq_true (by omega))) rfl) (.bin rfl rfl rfl) ?_
 refine aB rfl (.pickT rfl ((decide_eq_true (by omega)))) ?_
 refine bD ?_
 refine aB (aO (v:=true) rfl rfl ((decide_eq_true (by omega))) rfl) faA ?_
 refine aB (aO (v:=true) rfl rfl ((decide_eq_true (by omega))) rfl) rX ?_
 refine cY (aO (v:=true) rfl rfl ((decide_eq_true (by omega))) rfl) (.cons nJ .nil) (hVa) ?_
 refine aB rfl (.pickT rfl ((decide_eq_true (by omega)))) ?_
 refine bD ?_
 refine aB (aO (v:=true) rfl rfl ((rfl)) rfl) faA ?_
 refine aB (aO (v:=true) rfl rfl ((rfl)) rfl) rX ?_
 refine cY (aO (v:=true) rfl rfl ((rfl)) rfl) (.cons nJ .nil) (hSg) ?_
 refine aB (aO (v:=true) rfl rfl ((rfl)) rfl) (.bin rfl rfl rfl) ?_
 refine aB rfl (.pickT rfl ((rfl))) ?_
 refine cB ?_
 refine b8 (x:=bL (decide (dM 0≥0))) rfl ?_
 rw [show decide (dM 0≥0)=true from by decide +kernel]
 exact .pure rfl
theorem wJ (l:List (Rat × Rat)) (h0:0<l.length) (hl:l.length≤1000) (hb:∀ s∈l,iQ 1000000 s∧s.1≤s.2):aN Tryz.prog 87 [.list 6 (l.map spL)] (.list 6 (l.map spL)):=r9 (xR l h0 hl hb) (aF d8 _) (by simp)
namespace Zq114
theorem cK {p q:Prop} (k:q) (e:p=q:=by simp only [e1,e2,e3,e4,p1,p2,p3,q1,q2,q3,l1,t0,t1,r1,r2,r3,r4,Nat.zero_add,Nat.reduceMul,Nat.reduceAdd,b1,b2,b3,b4,b5,b6,i1,i2,i3,i4,i5,i6,Nat.reduceBEq,jS,aLu,Int.toNat_natCast,Nat.zero_add,ems,emt,aC d8,aC mK,List.length_map,List.take_nil,List.nil_append,List.set_cons_zero,List.set_cons_succ,Nat.reduceEqDiff,reduceIte,if_true,if_false,a8,a9,aC cW,aC dR,aC aD,aT,a6,LV.kill,bH];exact rfl):p:=e.mpr k
end Zq114
open Zq114 in
theorem aC5 (x:gG) (n D:Nat) (hn:x.1.length=n) (ht:x.2.2.length=n) (h0:0<n) (hn9:n≤10) (hD:x.2.1≤D) (hD9:D≤1000) (htm:∀ t∈x.2.2,0≤t∧t≤1000) (s:Rat × Rat):aN Tryz.prog 165 [spL s,.boxp (.agg [.list 6 (x.1.map spL),aG x.2.1,.list 1 (x.2.2.map dS)]),.boxp (aG (lT x))] (jS (aAu x s)):=by
 have hbx:LV.pure (.agg [.list 6 (x.1.map spL),aG x.2.1,.list 1 (x.2.2.map dS)])=true:=gW x
 have hpS:=aF d8 x.1
 have hpT:=aF mK x.2.2
 have hat:lT x<n:=by
  have:=pI (t:=x.2.2) x.2.2.length (Nat.le_refl _) (by omega)
  unfold lT;omega
 have htk:=htm _ (show x.2.2.getD (lT x) 0∈x.2.2 by rw [List.getD_eq_getElem?_getD,List.getElem?_eq_getElem (by omega)];exact List.getElem_mem (by omega))
 have ems:(x.1.map spL).set (lT x) (spL s)=(x.1.set (lT x) s).map spL:=List.map_set.symm
 have emt:(x.2.2.map dS).set (lT x) (dS (x.2.2.getD (lT x) 0+1))=(x.2.2.set (lT x) (x.2.2.getD (lT x) 0+1)).map dS:=List.map_set.symm
 refine dJ Tryz.func165 (ht:=(fun g=>LV.ren_pure g _ (gW _))) ?_
 have ems:True:=trivial
 have emt:True:=trivial
 refine dP ?_
 refine eH (fun L=>∃  (L1:St),(True)∧L=((((((St.mk L1.slot (hp [(3,⟨6,[spL s],true⟩),(4,⟨3,[.agg [.v (.slice none 0 0),.v (.int .i64 0),.v (.slice none 0 0)]],true⟩),(5,⟨3,[.agg [.ref 6 6 0 x.1.length,aG (x.2.1+1),.ref 13 1 0 x.2.2.length]],true⟩),(6,⟨6,x.1.map spL,true⟩),(13,⟨1,x.2.2.map dS,true⟩)])).put (some 1) (.boxp (.agg [.list 6 (x.1.map spL),aG x.2.1,.list 1 (x.2.2.map dS)]))).put (some 2) (.boxp (aG (lT x)))).put (some 3) (.eptr 3 6 0 0)).put (some 4) (.eptr 4 3 0 0)).put (some 5) (.eptr 5 3 0 0))) ?_ ?_
 ·refine zM ?_
  refine fS 1 rfl rfl (by decide +kernel) faA fmV fmA ?_
  refine fS 2 rfl rfl (by decide +kernel) (.ldbx rfl hpS rfl rfl) fmV fmA ?_
  refine fS 4 rfl rfl (by decide +kernel) faA fmV fmA ?_
  refine fS 5 rfl rfl (by decide +kernel) rX fmV fmA ?_
  refine fS 6 rfl rfl (by decide +kernel) (.bin rfl rfl (dA (by omega))) fmV fmA ?_
  refine fS 8 rfl rfl (by decide +kernel) faA fmV fmA ?_
  refine fS 9 rfl rfl (by decide +kernel) (.ldbx rfl hpT rfl rfl) fmV fmA ?_
  refine wS 0 7 12 _ _ _ (by decide +kernel) rfl rfl rfl ?_ ?_ ?_
  ·refine bD ?_
   refine aE ?_
   refine wS 3 7 12 _ _ _ (by decide +kernel) rfl rfl rfl ?_ ?_ ?_
   ·refine bC rfl (.appX (d:=6) (news:=x.1.map spL) rfl rfl rfl rfl (by simp) (.inl rfl) (by decide) Tryz.underlying49 Tryz.underlying49 nQ (by rw [d8.isAgg];exact mH) cs B54 (.inr (.inl rfl)) (by simp;omega) (by simp;omega) (by decide)) ?_
    refine aE ?_
    refine dT 7 12 _ _ (by decide +kernel) rfl rfl ?_ ?_
    ·refine bD ?_
     refine aE ?_
     refine dT 10 12 _ _ (by decide +kernel) rfl rfl ?_ ?_
     ·refine bC rfl (.appX (d:=13) (news:=x.2.2.map dS) rfl rfl rfl rfl (by simp) (.inl rfl) (by decide) Tryz.underlying22 Tryz.underlying22 (show bA _ _ (dS 0) from Z3) T3 rfl B3 (.inr (.inl rfl)) (by simp;omega) (by simp;omega) (by decide)) ?_
      refine aE ?_
      refine dT 11 12 _ _ (by decide +kernel) rfl rfl ?_ ?_
      ·refine bD ?_
       refine aE ?_
       refine a5 12 _ (by decide +kernel) rfl ?_
       refine bD ?_
       refine aE ?_
       refine a5 13 _ (by decide +kernel) rfl ?_
       refine bD ?_
       refine aE ?_
       refine cX (by decide +kernel) ?_
       refine bD ?_
       exact⟨_,trivial,((aA (aA (aA (aA (aA (bB (by first | exact cl | (refine cK ?_;refine fP ?_ ?_<;>repeat (first | exact trivial | refine And.intro rfl ?_)))) cl) cl) cl) cl) cl)).symm⟩
      ·refine bD ?_
       refine aE ?_
       refine a5 11 _ (by decide +kernel) rfl ?_
       refine bD ?_
       refine aE ?_
       refine a5 13 _ (by decide +kernel) rfl ?_
       refine bD ?_
       refine aE ?_
       refine cX (by decide +kernel) ?_
       refine bD ?_
       exact⟨_,trivial,((aA (aA (aA (aA (aA (bB (by first | exact cl | (refine cK ?_;refine fP ?_ ?_<;>repeat (first | exact trivial | refine And.intro rfl ?_)))) cl) cl) cl) cl) cl)).symm⟩
     ·refine bD ?_
      refine aE ?_
      refine a5 10 _ (by decide +kernel) rfl ?_
      refine bC rfl (.appX (d:=13) (news:=x.2.2.map dS) rfl rfl rfl rfl (by simp) (.inl rfl) (by decide) Tryz.underlying22 Tryz.underlying22 (show bA _ _ (dS 0) from Z3) T3 rfl B3 (.inr (.inl rfl)) (by simp;omega) (by simp;omega) (by decide)) ?_
      refine aE ?_
      refine a5 11 _ (by decide +kernel) rfl ?_
      refine bD ?_
      refine aE ?_
      refine a5 13 _ (by decide +kernel) rfl ?_
      refine bD ?_
      refine aE ?_
      refine cX (by decide +kernel) ?_
      refine bD ?_
      exact⟨_,trivial,((aA (aA (aA (aA (aA (bB (by first | exact cl | (refine cK ?_;refine fP ?_ ?_<;>repeat (first | exact trivial | refine And.intro rfl ?_)))) cl) cl) cl) cl) cl)).symm⟩
    ·refine bD ?_
     refine aE ?_
     refine a5 7 _ (by decide +kernel) rfl ?_
     refine bD ?_
     refine aE ?_
     refine a5 10 _ (by decide +kernel) rfl ?_
     refine bC rfl (.appX (d:=13) (news:=x.2.2.map dS) rfl rfl rfl rfl (by simp) (.inl rfl) (by decide) Tryz.underlying22 Tryz.underlying22 (show bA _ _ (dS 0) from Z3) T3 rfl B3 (.inr (.inl rfl)) (by simp;omega) (by simp;omega) (by decide)) ?_
     refine aE ?_
     refine a5 11 _ (by decide +kernel) rfl ?_
     refine bD ?_
     refine aE ?_
     refine a5 13 _ (by decide +kernel) rfl ?_
     refine bD ?_
     refine aE ?_
     refine cX (by decide +kernel) ?_
     refine bD ?_
     exact⟨_,trivial,((aA (aA (aA (aA (aA (bB (by first | exact cl | (refine cK ?_;refine fP ?_ ?_<;>repeat (first | exact trivial | refine And.intro rfl ?_)))) cl) cl) cl) cl) cl)).symm⟩
   ·refine bD ?_
    refine aE ?_
    refine dT 3 12 _ _ (by decide +kernel) rfl rfl ?_ ?_
    ·refine bC rfl (.appX (d:=6) (news:=x.1.map spL) rfl rfl rfl rfl (by simp) (.inl rfl) (by decide) Tryz.underlying49 Tryz.underlying49 nQ (by rw [d8.isAgg];exact mH) cs B54 (.inr (.inl rfl)) (by simp;omega) (by simp;omega) (by decide)) ?_
     refine aE ?_
     refine dT 10 12 _ _ (by decide +kernel) rfl rfl ?_ ?_
     ·refine bC rfl (.appX (d:=13) (news:=x.2.2.map dS) rfl rfl rfl rfl (by simp) (.inl rfl) (by decide) Tryz.underlying22 Tryz.underlying22 (show bA _ _ (dS 0) from Z3) T3 rfl B3 (.inr (.inl rfl)) (by simp;omega) (by simp;omega) (by decide)) ?_
      refine aE ?_
      refine dT 11 12 _ _ (by decide +kernel) rfl rfl ?_ ?_
      ·refine bD ?_
       refine aE ?_
       refine a5 12 _ (by decide +kernel) rfl ?_
       refine bD ?_
       refine aE ?_
       refine a5 13 _ (by decide +kernel) rfl ?_
       refine bD ?_
       refine aE ?_
       refine cX (by decide +kernel) ?_
       refine bD ?_
       exact⟨_,trivial,((aA (aA (aA (aA (aA (bB (by first | exact cl | (refine cK ?_;refine fP ?_ ?_<;>repeat (first | exact trivial | refine And.intro rfl ?_)))) cl) cl) cl) cl) cl)).symm⟩
      ·refine bD ?_
       refine aE ?_
       refine a5 11 _ (by decide +kernel) rfl ?_
       refine bD ?_
       refine aE ?_
       refine a5 13 _ (by decide +kernel) rfl ?_
       refine bD ?_
       refine aE ?_
       refine cX (by decide +kernel) ?_
       refine bD ?_
       exact⟨_,trivial,((aA (aA (aA (aA (aA (bB (by first | exact cl | (refine cK ?_;refine fP ?_ ?_<;>repeat (first | exact trivial | refine And.intro rfl ?_)))) cl) cl) cl) cl) cl)).symm⟩
     ·refine bD ?_
      refine aE ?_
      refine a5 10 _ (by decide +kernel) rfl ?_
      refine bC rfl (.appX (d:=13) (news:=x.2.2.map dS) rfl rfl rfl rfl (by simp) (.inl rfl) (by decide) Tryz.underlying22 Tryz.underlying22 (show bA _ _ (dS 0) from Z3) T3 rfl B3 (.inr (.inl rfl)) (by simp;omega) (by simp;omega) (by decide)) ?_
      refine aE ?_
      refine a5 11 _ (by decide +kernel) rfl ?_
      refine bD ?_
      refine aE ?_
      refine a5 13 _ (by decide +kernel) rfl ?_
      refine bD ?_
      refine aE ?_
      refine cX (by decide +kernel) ?_
      refine bD ?_
      exact⟨_,trivial,((aA (aA (aA (aA (aA (bB (by first | exact cl | (refine cK ?_;refine fP ?_ ?_<;>repeat (first | exact trivial | refine And.intro rfl ?_)))) cl) cl) cl) cl) cl)).symm⟩
    ·refine bD ?_
     refine aE ?_
     refine a5 3 _ (by decide +kernel) rfl ?_
     refine bC rfl (.appX (d:=6) (news:=x.1.map spL) rfl rfl rfl rfl (by simp) (.inl rfl) (by decide) Tryz.underlying49 Tryz.underlying49 nQ (by rw [d8.isAgg];exact mH) cs B54 (.inr (.inl rfl)) (by simp;omega) (by simp;omega) (by decide)) ?_
     refine aE ?_
     refine a5 10 _ (by decide +kernel) rfl ?_
     refine bC rfl (.appX (d:=13) (news:=x.2.2.map dS) rfl rfl rfl rfl (by simp) (.inl rfl) (by decide) Tryz.underlying22 Tryz.underlying22 (show bA _ _ (dS 0) from Z3) T3 rfl B3 (.inr (.inl rfl)) (by simp;omega) (by simp;omega) (by decide)) ?_
     refine aE ?_
     refine a5 11 _ (by decide +kernel) rfl ?_
     refine bD ?_
     refine aE ?_
     refine a5 13 _ (by decide +kernel) rfl ?_
     refine bD ?_
     refine aE ?_
     refine cX (by decide +kernel) ?_
     refine bD ?_
     exact⟨_,trivial,((aA (aA (aA (aA (aA (bB (by first | exact cl | (refine cK ?_;refine fP ?_ ?_<;>repeat (first | exact trivial | refine And.intro rfl ?_)))) cl) cl) cl) cl) cl)).symm⟩
   ·refine bD ?_
    refine aE ?_
    refine dT 3 7 _ _ (by decide +kernel) rfl rfl ?_ ?_
    ·refine bC rfl (.appX (d:=6) (news:=x.1.map spL) rfl rfl rfl rfl (by simp) (.inl rfl) (by decide) Tryz.underlying49 Tryz.underlying49 nQ (by rw [d8.isAgg];exact mH) cs B54 (.inr (.inl rfl)) (by simp;omega) (by simp;omega) (by decide)) ?_
     refine aE ?_
     refine a5 7 _ (by decide +kernel) rfl ?_
     refine bD ?_
     refine aE ?_
     refine a5 10 _ (by decide +kernel) rfl ?_
     refine bC rfl (.appX (d:=13) (news:=x.2.2.map dS) rfl rfl rfl rfl (by simp) (.inl rfl) (by decide) Tryz.underlying22 Tryz.underlying22 (show bA _ _ (dS 0) from Z3) T3 rfl B3 (.inr (.inl rfl)) (by simp;omega) (by simp;omega) (by decide)) ?_
     refine aE ?_
     refine a5 11 _ (by decide +kernel) rfl ?_
     refine bD ?_
     refine aE ?_
     refine a5 13 _ (by decide +kernel) rfl ?_
     refine bD ?_
     refine aE ?_
     refine cX (by decide +kernel) ?_
     refine bD ?_
     exact⟨_,trivial,((aA (aA (aA (aA (aA (bB (by first | exact cl | (refine cK ?_;refine fP ?_ ?_<;>repeat (first | exact trivial | refine And.intro rfl ?_)))) cl) cl) cl) cl) cl)).symm⟩
    ·refine bD ?_
     refine aE ?_
     refine a5 3 _ (by decide +kernel) rfl ?_
     refine bC rfl (.appX (d:=6) (news:=x.1.map spL) rfl rfl rfl rfl (by simp) (.inl rfl) (by decide) Tryz.underlying49 Tryz.underlying49 nQ (by rw [d8.isAgg];exact mH) cs B54 (.inr (.inl rfl)) (by simp;omega) (by simp;omega) (by decide)) ?_
     refine aE ?_
     refine a5 10 _ (by decide +kernel) rfl ?_
     refine bC rfl (.appX (d:=13) (news:=x.2.2.map dS) rfl rfl rfl rfl (by simp) (.inl rfl) (by decide) Tryz.underlying22 Tryz.underlying22 (show bA _ _ (dS 0) from Z3) T3 rfl B3 (.inr (.inl rfl)) (by simp;omega) (by simp;omega) (by decide)) ?_
     refine aE ?_
     refine a5 11 _ (by decide +kernel) rfl ?_
     refine bD ?_
     refine aE ?_
     refine a5 13 _ (by decide +kernel) rfl ?_
     refine bD ?_
     refine aE ?_
     refine cX (by decide +kernel) ?_
     refine bD ?_
     exact⟨_,trivial,((aA (aA (aA (aA (aA (bB (by first | exact cl | (refine cK ?_;refine fP ?_ ?_<;>repeat (first | exact trivial | refine And.intro rfl ?_)))) cl) cl) cl) cl) cl)).symm⟩
  ·refine bD ?_
   refine aE ?_
   refine dT 0 12 _ _ (by decide +kernel) rfl rfl ?_ ?_
   ·refine bD ?_
    refine aE ?_
    refine dT 3 12 _ _ (by decide +kernel) rfl rfl ?_ ?_
    ·refine bC rfl (.appX (d:=6) (news:=x.1.map spL) rfl rfl rfl rfl (by simp) (.inl rfl) (by decide) Tryz.underlying49 Tryz.underlying49 nQ (by rw [d8.isAgg];exact mH) cs B54 (.inr (.inl rfl)) (by simp;omega) (by simp;omega) (by decide)) ?_
     refine aE ?_
     refine dT 10 12 _ _ (by decide +kernel) rfl rfl ?_ ?_
     ·refine bC rfl (.appX (d:=13) (news:=x.2.2.map dS) rfl rfl rfl rfl (by simp) (.inl rfl) (by decide) Tryz.underlying22 Tryz.underlying22 (show bA _ _ (dS 0) from Z3) T3 rfl B3 (.inr (.inl rfl)) (by simp;omega) (by simp;omega) (by decide)) ?_
      refine aE ?_
      refine dT 11 12 _ _ (by decide +kernel) rfl rfl ?_ ?_
      ·refine bD ?_
       refine aE ?_
       refine a5 12 _ (by decide +kernel) rfl ?_
       refine bD ?_
       refine aE ?_
       refine a5 13 _ (by decide +kernel) rfl ?_
       refine bD ?_
       refine aE ?_
       refine cX (by decide +kernel) ?_
       refine bD ?_
       exact⟨_,trivial,((aA (aA (aA (aA (aA (bB (by first | exact cl | (refine cK ?_;refine fP ?_ ?_<;>repeat (first | exact trivial | refine And.intro rfl ?_)))) cl) cl) cl) cl) cl)).symm⟩
      ·refine bD ?_
       refine aE ?_
       refine a5 11 _ (by decide +kernel) rfl ?_
       refine bD ?_
       refine aE ?_
       refine a5 13 _ (by decide +kernel) rfl ?_
       refine bD ?_
       refine aE ?_
       refine cX (by decide +kernel) ?_
       refine bD ?_
       exact⟨_,trivial,((aA (aA (aA (aA (aA (bB (by first | exact cl | (refine cK ?_;refine fP ?_ ?_<;>repeat (first | exact trivial | refine And.intro rfl ?_)))) cl) cl) cl) cl) cl)).symm⟩
     ·refine bD ?_
      refine aE ?_
      refine a5 10 _ (by decide +kernel) rfl ?_
      refine bC rfl (.appX (d:=13) (news:=x.2.2.map dS) rfl rfl rfl rfl (by simp) (.inl rfl) (by decide) Tryz.underlying22 Tryz.underlying22 (show bA _ _ (dS 0) from Z3) T3 rfl B3 (.inr (.inl rfl)) (by simp;omega) (by simp;omega) (by decide)) ?_
      refine aE ?_
      refine a5 11 _ (by decide +kernel) rfl ?_
      refine bD ?_
      refine aE ?_
      refine a5 13 _ (by decide +kernel) rfl ?_
      refine bD ?_
      refine aE ?_
      refine cX (by decide +kernel) ?_
      refine bD ?_
      exact⟨_,trivial,((aA (aA (aA (aA (aA (bB (by first | exact cl | (refine cK ?_;refine fP ?_ ?_<;>repeat (first | exact trivial | refine And.intro rfl ?_)))) cl) cl) cl) cl) cl)).symm⟩
    ·refine bD ?_
     refine aE ?_
     refine a5 3 _ (by decide +kernel) rfl ?_
     refine bC rfl (.appX (d:=6) (news:=x.1.map spL) rfl rfl rfl rfl (by simp) (.inl rfl) (by decide) Tryz.underlying49 Tryz.underlying49 nQ (by rw [d8.isAgg];exact mH) cs B54 (.inr (.inl rfl)) (by simp;omega) (by simp;omega) (by decide)) ?_
     refine aE ?_
     refine a5 10 _ (by decide +kernel) rfl ?_
     refine bC rfl (.appX (d:=13) (news:=x.2.2.map dS) rfl rfl rfl rfl (by simp) (.inl rfl) (by decide) Tryz.underlying22 Tryz.underlying22 (show bA _ _ (dS 0) from Z3) T3 rfl B3 (.inr (.inl rfl)) (by simp;omega) (by simp;omega) (by decide)) ?_
     refine aE ?_
     refine a5 11 _ (by decide +kernel) rfl ?_
     refine bD ?_
     refine aE ?_
     refine a5 13 _ (by decide +kernel) rfl ?_
     refine bD ?_
     refine aE ?_
     refine cX (by decide +kernel) ?_
     refine bD ?_
     exact⟨_,trivial,((aA (aA (aA (aA (aA (bB (by first | exact cl | (refine cK ?_;refine fP ?_ ?_<;>repeat (first | exact trivial | refine And.intro rfl ?_)))) cl) cl) cl) cl) cl)).symm⟩
   ·refine bD ?_
    refine aE ?_
    refine a5 0 _ (by decide +kernel) rfl ?_
    refine bD ?_
    refine aE ?_
    refine a5 3 _ (by decide +kernel) rfl ?_
    refine bC rfl (.appX (d:=6) (news:=x.1.map spL) rfl rfl rfl rfl (by simp) (.inl rfl) (by decide) Tryz.underlying49 Tryz.underlying49 nQ (by rw [d8.isAgg];exact mH) cs B54 (.inr (.inl rfl)) (by simp;omega) (by simp;omega) (by decide)) ?_
    refine aE ?_
    refine a5 10 _ (by decide +kernel) rfl ?_
    refine bC rfl (.appX (d:=13) (news:=x.2.2.map dS) rfl rfl rfl rfl (by simp) (.inl rfl) (by decide) Tryz.underlying22 Tryz.underlying22 (show bA _ _ (dS 0) from Z3) T3 rfl B3 (.inr (.inl rfl)) (by simp;omega) (by simp;omega) (by decide)) ?_
    refine aE ?_
    refine a5 11 _ (by decide +kernel) rfl ?_
    refine bD ?_
    refine aE ?_
    refine a5 13 _ (by decide +kernel) rfl ?_
    refine bD ?_
    refine aE ?_
    refine cX (by decide +kernel) ?_
    refine bD ?_
    exact⟨_,trivial,((aA (aA (aA (aA (aA (bB (by first | exact cl | (refine cK ?_;refine fP ?_ ?_<;>repeat (first | exact trivial | refine And.intro rfl ?_)))) cl) cl) cl) cl) cl)).symm⟩
  ·refine bD ?_
   refine aE ?_
   refine dT 0 7 _ _ (by decide +kernel) rfl rfl ?_ ?_
   ·refine bD ?_
    refine aE ?_
    refine dT 3 7 _ _ (by decide +kernel) rfl rfl ?_ ?_
    ·refine bC rfl (.appX (d:=6) (news:=x.1.map spL) rfl rfl rfl rfl (by simp) (.inl rfl) (by decide) Tryz.underlying49 Tryz.underlying49 nQ (by rw [d8.isAgg];exact mH) cs B54 (.inr (.inl rfl)) (by simp;omega) (by simp;omega) (by decide)) ?_
     refine aE ?_
     refine a5 7 _ (by decide +kernel) rfl ?_
     refine bD ?_
     refine aE ?_
     refine a5 10 _ (by decide +kernel) rfl ?_
     refine bC rfl (.appX (d:=13) (news:=x.2.2.map dS) rfl rfl rfl rfl (by simp) (.inl rfl) (by decide) Tryz.underlying22 Tryz.underlying22 (show bA _ _ (dS 0) from Z3) T3 rfl B3 (.inr (.inl rfl)) (by simp;omega) (by simp;omega) (by decide)) ?_
     refine aE ?_
     refine a5 11 _ (by decide +kernel) rfl ?_
     refine bD ?_
     refine aE ?_
     refine a5 13 _ (by decide +kernel) rfl ?_
     refine bD ?_
     refine aE ?_
     refine cX (by decide +kernel) ?_
     refine bD ?_
     exact⟨_,trivial,((aA (aA (aA (aA (aA (bB (by first | exact cl | (refine cK ?_;refine fP ?_ ?_<;>repeat (first | exact trivial | refine And.intro rfl ?_)))) cl) cl) cl) cl) cl)).symm⟩
    ·refine bD ?_
     refine aE ?_
     refine a5 3 _ (by decide +kernel) rfl ?_
     refine bC rfl (.appX (d:=6) (news:=x.1.map spL) rfl rfl rfl rfl (by simp) (.inl rfl) (by decide) Tryz.underlying49 Tryz.underlying49 nQ (by rw [d8.isAgg];exact mH) cs B54 (.inr (.inl rfl)) (by simp;omega) (by simp;omega) (by decide)) ?_
     refine aE ?_
     refine a5 10 _ (by decide +kernel) rfl ?_
     refine bC rfl (.appX (d:=13) (news:=x.2.2.map dS) rfl rfl rfl rfl (by simp) (.inl rfl) (by decide) Tryz.underlying22 Tryz.underlying22 (show bA _ _ (dS 0) from Z3) T3 rfl B3 (.inr (.inl rfl)) (by simp;omega) (by simp;omega) (by decide)) ?_
     refine aE ?_
     refine a5 11 _ (by decide +kernel) rfl ?_
     refine bD ?_
     refine aE ?_
     refine a5 13 _ (by decide +kernel) rfl ?_
     refine bD ?_
     refine aE ?_
     refine cX (by decide +kernel) ?_
     refine bD ?_
     exact⟨_,trivial,((aA (aA (aA (aA (aA (bB (by first | exact cl | (refine cK ?_;refine fP ?_ ?_<;>repeat (first | exact trivial | refine And.intro rfl ?_)))) cl) cl) cl) cl) cl)).symm⟩
   ·refine bD ?_
    refine aE ?_
    refine a5 0 _ (by decide +kernel) rfl ?_
    refine bD ?_
    refine aE ?_
    refine a5 3 _ (by decide +kernel) rfl ?_
    refine bC rfl (.appX (d:=6) (news:=x.1.map spL) rfl rfl rfl rfl (by simp) (.inl rfl) (by decide) Tryz.underlying49 Tryz.underlying49 nQ (by rw [d8.isAgg];exact mH) cs B54 (.inr (.inl rfl)) (by simp;omega) (by simp;omega) (by decide)) ?_
    refine aE ?_
    refine a5 10 _ (by decide +kernel) rfl ?_
    refine bC rfl (.appX (d:=13) (news:=x.2.2.map dS) rfl rfl rfl rfl (by simp) (.inl rfl) (by decide) Tryz.underlying22 Tryz.underlying22 (show bA _ _ (dS 0) from Z3) T3 rfl B3 (.inr (.inl rfl)) (by simp;omega) (by simp;omega) (by decide)) ?_
    refine aE ?_
    refine a5 11 _ (by decide +kernel) rfl ?_
    refine bD ?_
    refine aE ?_
    refine a5 13 _ (by decide +kernel) rfl ?_
    refine bD ?_
    refine aE ?_
    refine cX (by decide +kernel) ?_
    refine bD ?_
    exact⟨_,trivial,((aA (aA (aA (aA (aA (bB (by first | exact cl | (refine cK ?_;refine fP ?_ ?_<;>repeat (first | exact trivial | refine And.intro rfl ?_)))) cl) cl) cl) cl) cl)).symm⟩
 ·rintro _ ⟨LR1,-,rfl⟩
  refine oB ?_
  try refine cK ?_
  refine aB rfl (.bin rfl rfl (oE (by omega) (by omega))) ?_
  refine cQ ?_
  exact dE [6,13] rfl rfl rfl cs (b7 cs rfl) xC (.agg (.cons (cC (l:=x.1.set (lT x) s) d8 rfl rfl (by simp)) (.cons (.pure rfl) (.cons (cC (l:=x.2.2.set (lT x) (x.2.2.getD (lT x) 0+1)) mK rfl rfl (by simp)) .nil))))
namespace Zq6
theorem cK {p q:Prop} (k:q) (e:p=q:=by simp only [e1,e2,e3,e4,p1,p2,p3,q1,q2,q3,l1,t0,t1,r1,r2,r3,r4,Nat.zero_add,Nat.reduceMul,Nat.reduceAdd,b1,b2,b3,b4,b5,b6,i1,i2,i3,i4,i5,i6,Nat.reduceBEq,ht,jS,aLu,Int.toNat_natCast,Nat.zero_add,els,fz0,wF,List.length_map,List.set_cons_zero,List.set_cons_succ,Nat.reduceEqDiff,reduceIte,if_true,if_false,a8,a9,aC cW,aC dR,aC aD,aT,a6,LV.kill,bH];exact rfl):p:=e.mpr k
end Zq6
open Zq6 in
theorem aDE (x:gG) (n D:Nat) (hn:x.1.length=n) (ht:x.2.2.length=n) (h0:0<n) (hn9:n≤10) (hD:x.2.1≤D) (hD9:D≤1000) (htm:∀ t∈x.2.2,0≤t∧t≤1000) (R:Nat) (hR:R≤10000) (hs:∀ s∈x.1,iQ R s∧s.1≤s.2):aN Tryz.prog 89 [.agg [.list 6 (x.1.map spL),aG x.2.1,.list 1 (x.2.2.map dS)]] (.tup [jS (loB x),jS (hiB x)]):=by
 have hbx:LV.pure (.agg [.list 6 (x.1.map spL),aG x.2.1,.list 1 (x.2.2.map dS)])=true:=gW x
 have hpS:=aF d8 x.1
 have hpT:=aF mK x.2.2
 have hat:lT x<n:=by
  have:=pI (t:=x.2.2) x.2.2.length (Nat.le_refl _) (by omega)
  unfold lT;omega
 have htk:=htm _ (show x.2.2.getD (lT x) 0∈x.2.2 by rw [List.getD_eq_getElem?_getD,List.getElem?_eq_getElem (by omega)];exact List.getElem_mem (by omega))
 have hsk:=hs (x.1.getD (lT x) default) (by rw [List.getD_eq_getElem?_getD,List.getElem?_eq_getElem (by omega)];exact List.getElem_mem (by omega))
 have hH:=aEe (x.1.getD (lT x) default) R hR hsk.1 hsk.2
 have hcp:aV ([.boxp (.agg [.list 6 (x.1.map spL),aG x.2.1,.list 1 (x.2.2.map dS)]),.boxp (aG (lT x))]:List LV)=true:=by simp [aV,LV.pure,aF d8,aF mK]
 have hcs:∀ y∈([.boxp (.agg [.list 6 (x.1.map spL),aG x.2.1,.list 1 (x.2.2.map dS)]),.boxp (aG (lT x))]:List LV),y.csize=1∧y.isAgg=false:=fun y hy=>by
  simp only [List.mem_cons,List.not_mem_nil,or_false] at hy
  rcases hy with e | e<;>rw [e]<;>exact⟨rfl,rfl⟩
 have hA:=aC5 x n D hn ht h0 hn9 hD hD9 htm (loS (x.1.getD (lT x) default))
 have hB:=aC5 x n D hn ht h0 hn9 hD hD9 htm (hiS (x.1.getD (lT x) default))
 refine dJ Tryz.func89 (ht:=(gU (gW _) (gW _))) ?_
 have els:True:=trivial
 refine aAw ?_
 refine lO (fun(i:Nat) L=>((((((((St.mk L.slot (hp [(1,⟨3,[.agg [.list 6 (x.1.map spL),aG x.2.1,.list 1 (x.2.2.map dS)]],true⟩),(2,⟨3,[.agg [.v (.slice none 0 0),.v (.int .i64 0),.v (.slice none 0 0)]],true⟩),(3,⟨3,[.agg [.v (.slice none 0 0),.v (.int .i64 0),.v (.slice none 0 0)]],true⟩),(4,⟨1,[aG (xB x.2.2 i)],true⟩)])).put (some 1) (.eptr 1 3 0 0)).put (some 2) (.eptr 2 3 0 0)).put (some 3) (.eptr 3 3 0 0)).put (some 4) (.eptr 4 1 0 0)).put (some 11) (.list 1 (x.2.2.map dS))).put (some 12) (aG n)).put (some 13) (aG i))) (fun i=>i≤n) (fun i=>n-i) 0 (Nat.zero_le _) ?_
 rintro i L1 hi
 refine bY ?_
 refine aQ rfl (fun h14r h14=>?_) (fun h14r h14=>?_)
 ·have rC:i<n:=by omega
  have hli:=pI (t:=x.2.2) i (by omega) (by omega)
  refine aBC ?_
  refine aQ rfl (fun h24r h24=>?_) (fun h24r h24=>?_)
  ·have els:xB x.2.2 (i+1)=i:=if_pos h24
   refine dP ?_
   refine aB rfl (.bin rfl rfl (dA (by omega))) ?_
   refine dI ?_
   exact kE (i+1) (by omega)
  ·have els:xB x.2.2 (i+1)=xB x.2.2 i:=if_neg h24
   refine cB ?_
   refine aB rfl (.bin rfl rfl (dA (by omega))) ?_
   refine dI ?_
   exact kE (i+1) (by omega)
 ·obtain rfl:n=i:=by omega
  have hE9:xB x.2.2 n=lT x:=by unfold lT;rw [ht]
  simp only [hE9]
  refine dP ?_
  refine gE [1,4] rfl rfl (.mk (caps:=([.boxp (.agg [.list 6 (x.1.map spL),aG x.2.1,.list 1 (x.2.2.map dS)]),.boxp (aG (lT x))]:List LV)) (.cons (.eptr rfl rfl rfl cs (b7 cs rfl) hbx rfl) (.cons (.eptr (n:=1) (ag:=false) rfl rfl rfl rfl rfl rfl rfl) .nil)) hcs) rfl ?_
  refine cG ?_
  refine cp cS (hH) ?_
  refine cG ?_
  refine aP 6 (by decide +kernel) ?_
  refine cU ?_
  refine gE [] rfl rfl (.clo (f:=165) (cap:=([.boxp (.agg [.list 6 (x.1.map spL),aG x.2.1,.list 1 (x.2.2.map dS)]),.boxp (aG (lT x))]:List LV)) (args:=[spL (loS (x.1.getD (lT x) default))]) rfl (.cons (.pure (d8.pure _)) .nil) ⟨hcp,hcs⟩ hA.1 (by decide) (fun _ h=>by cases h)) (hA.2 _) ?_
  refine cU ?_
  refine gE [] rfl rfl (.clo (f:=165) (cap:=([.boxp (.agg [.list 6 (x.1.map spL),aG x.2.1,.list 1 (x.2.2.map dS)]),.boxp (aG (lT x))]:List LV)) (args:=[spL (hiS (x.1.getD (lT x) default))]) rfl (.cons (.pure (d8.pure _)) .nil) ⟨hcp,hcs⟩ hB.1 (by decide) (fun _ h=>by cases h)) (hB.2 _) ?_
  refine dX ?_
  exact aEY [] rfl rfl rfl cs (b7 cs rfl) xC (.pure (gW _)) rfl rfl cs (b7 cs rfl) xC (.pure (gW _))
theorem spu (a b:Rat):spL (a,b)=.agg [ratL a,ratL b]:=by unfold spL;rfl
theorem aFB {R:Nat} {s:Rat × Rat} (h:iQ R s):iQ R (w5 s):=⟨by show rl (-s.2)≤R;rw [zY];exact h.2,by show rl (-s.1)≤R;rw [zY];exact h.1⟩
theorem aKg {R:Nat} {p q r s:Rat × Rat} (hp:iQ R p) (hq:iQ R q) (hr:iQ R r) (hs:iQ R s):iQ (4*R+1) (d2S p q r s):=(aFX (vA hp hs) (vA hq hr)).le (by omega)
theorem aMz {P:Program} {H:cM} {ρ:Operand→LV} {T:TypeId} (hl:cT P T [(3,true),(3,true)]) (hz:bA P T (spL (0,0))):OpP P H ρ (.build T #[]) (spL (0,0)):=by
 have e:[ratL 0,ratL 0].map lay=[(3,true),(3,true)]:=by simp [lay,aD.csize,aD.isAgg]
 rw [spu] at hz ⊢
 exact .build (zs:=[ratL 0,ratL 0]) (e ▸ hl) hz (by intro p hp;cases hp)
theorem aII {P:Program} {H:cM} {ρ:Operand→LV} {T E:TypeId} {n:Nat} {ag:Bool} {o0 o1:Operand} {z v0 v1:LV} (hT:P.underlying T=some (.array 2 E)) (t:bT P E n ag) (hz:bA P T (.agg [z,z])) (zl:lay z=(n,ag)) (h0:ρ o0=v0) (h1:ρ o1=v1)
  (l0:lay v0=(n,ag)) (l1:lay v1=(n,ag)) (p0:v0.pure=true) (p1':v1.pure=true):OpP P H ρ (.build T #[(0,o0),(1,o1)]) (.agg [v0,v1]):=by
 have:=OpP.buildA (P:=P) (H:=H) (ρ:=ρ) (zs:=[z,z]) (ps:=#[(0,o0),(1,o1)]) hT t (by simp [zl]) hz (by
  intro p hp
  simp only [List.mem_cons,List.not_mem_nil,or_false] at hp
  rcases hp with rfl | rfl
  ·exact⟨_,rfl,by rw [h0,l0,zl],by rw [h0];exact LV.pure_ne_any p0,by rw [h0];exact LV.pure_ne_tup p0⟩
  ·exact⟨_,rfl,by rw [h1,l1,zl],by rw [h1];exact LV.pure_ne_any p1',by rw [h1];exact LV.pure_ne_tup p1'⟩)
 simpa only [eN,List.map,List.foldl,List.set,h0,h1] using this
theorem lz {p:Prop} (h:p:=by first | rfl | simp [lay,LV.csize,aL,fQ,aD.csize,d8.csize,aD.isAgg,d8.isAgg]):p:=h
open H0 in
theorem aGn (q:Rat) (h:rl q≤274877906944):aN Tryz.prog 189 [ratL q] (ratL (-q)):=by
 refine dJ Tryz.func189 ?_
 refine eP ?_
 refine cp cS (wC q (by omega)) ?_
 refine eP ?_
 refine eD 8 rfl (fun h8r h8=>?_) (fun h8r h8=>?_)
 ·refine bY ?_
  refine bC rfl (.stNegR rfl rfl rfl T4 (by first | exact aHI h8r | exact aHC h8r)) ?_
  refine eP ?_
  exact dE [] rfl rfl rfl (aD.csize _) (aH _) dD (.pure (aD.pure _))
 ·refine bY ?_
  refine bC rfl (.stNegR rfl rfl rfl T4 (by first | exact aHI h8r | exact aHC h8r)) ?_
  refine eP ?_
  exact dE [] rfl rfl rfl (aD.csize _) (aH _) dD (.pure (aD.pure _))
namespace Zq79
theorem cK {p q:Prop} (k:q) (e:p=q:=by simp only [e1,e2,e3,e4,p1,p2,p3,q1,q2,q3,l1,t0,t1,r1,r2,r3,r4,Nat.zero_add,Nat.reduceMul,Nat.reduceAdd,b1,b2,b3,b4,b5,b6,i1,i2,i3,i4,i5,i6,Nat.reduceBEq,List.set_cons_zero,List.set_cons_succ,Nat.reduceEqDiff,reduceIte,if_true,if_false,a8,a9,aC cW,aC dR,aC aD,aT,a6,LV.kill,bH];exact rfl):p:=e.mpr k
end Zq79
open Zq79 in
theorem aFp (s:Rat × Rat) (R:Nat) (hR:R≤1000000000) (hs:iQ R s):aN Tryz.prog 102 [spL s] (spL (w5 s)):=by
 obtain⟨a1,a2⟩:=hs
 refine dJ Tryz.func102 ?_
 refine dP ?_
 refine aP 7 (by decide +kernel) ?_
 refine cU ?_
 refine cp cS (aGn s.2 (by omega)) ?_
 refine cU ?_
 refine cp cS (aGn s.1 (by omega)) ?_
 refine dX ?_
 exact dE [] rfl rfl rfl (d8.csize _) (fN _) mH (.pure (d8.pure _))
namespace Zq75
theorem cK {p q:Prop} (k:q) (e:p=q:=by simp only [e1,e2,e3,e4,p1,p2,p3,q1,q2,q3,l1,t0,t1,r1,r2,r3,r4,Nat.zero_add,Nat.reduceMul,Nat.reduceAdd,b1,b2,b3,b4,b5,b6,i1,i2,i3,i4,i5,i6,Nat.reduceBEq,List.set_cons_zero,List.set_cons_succ,Nat.reduceEqDiff,reduceIte,if_true,if_false,a8,a9,aC cW,aC dR,aC aD,aT,a6,LV.kill,bH];exact rfl):p:=e.mpr k
end Zq75
open Zq75 in
theorem o6 (s t:Rat × Rat) (R:Nat) (hR:R≤1000000000) (hs:iQ R s) (ht:iQ R t) (hm:meS s t=true):aN Tryz.prog 97 [spL s,spL t] (.tup [spL (jR s.1 t.1,kC s.2 t.2),bL true]):=by
 obtain⟨a1,a2⟩:=hs
 obtain⟨y1,y2⟩:=ht
 have hle:=of_decide_eq_true hm
 have hz1:rl (jR s.1 t.1)≤R:=by unfold jR;split<;>assumption
 have hz2:rl (kC s.2 t.2)≤R:=by unfold kC;split<;>assumption
 have hcm:¬g6 (jR s.1 t.1) (kC s.2 t.2) > 0:=fun e=>by have:=lP.1 e;grind
 refine dJ Tryz.func97 (ht:=(gU (d8.pure _) rfl)) ?_
 refine eP ?_
 refine aP 12 (by decide +kernel) ?_
 refine cB ?_
 refine cp bI ((yJ s.1 t.1 (by omega):aN Tryz.prog 168 [ratL s.1,ratL t.1] (ratL (jR s.1 t.1)))) ?_
 refine cB ?_
 refine cp bI ((zU s.2 t.2 (by omega):aN Tryz.prog 167 [ratL s.2,ratL t.2] (ratL (kC s.2 t.2)))) ?_
 refine cH ?_
 refine cp bI (iN (jR s.1 t.1) (kC s.2 t.2) (by omega)) ?_
 refine dI ?_
 refine bO (b:=_) rfl (decide_eq_false hcm) ?_
 refine cG ?_
 exact nL [] rfl rfl rfl (d8.csize _) (fN _) mH (.pure (d8.pure _)) rfl (.pure rfl)
namespace Zq76
theorem cK {p q:Prop} (k:q) (e:p=q:=by simp only [e1,e2,e3,e4,p1,p2,p3,q1,q2,q3,l1,t0,t1,r1,r2,r3,r4,Nat.zero_add,Nat.reduceMul,Nat.reduceAdd,b1,b2,b3,b4,b5,b6,i1,i2,i3,i4,i5,i6,Nat.reduceBEq,List.set_cons_zero,List.set_cons_succ,Nat.reduceEqDiff,reduceIte,if_true,if_false,a8,a9,aC cW,aC dR,aC aD,aT,a6,LV.kill,bH];exact rfl):p:=e.mpr k
end Zq76
open Zq76 in
theorem u5 (s t:Rat × Rat) (R:Nat) (hR:R≤1000000000) (hs:iQ R s) (ht:iQ R t) (hm:meS s t=false):aN Tryz.prog 97 [spL s,spL t] (.tup [spL (0,0),bL false]):=by
 obtain⟨a1,a2⟩:=hs
 obtain⟨y1,y2⟩:=ht
 have hle:=of_decide_eq_false hm
 have hz1:rl (jR s.1 t.1)≤R:=by unfold jR;split<;>assumption
 have hz2:rl (kC s.2 t.2)≤R:=by unfold kC;split<;>assumption
 have hcm:g6 (jR s.1 t.1) (kC s.2 t.2) > 0:=lP.2 (by grind)
 refine dJ Tryz.func97 (ht:=(gU (d8.pure _) rfl)) ?_
 refine eP ?_
 refine aP 12 (by decide +kernel) ?_
 refine cB ?_
 refine cp bI ((yJ s.1 t.1 (by omega):aN Tryz.prog 168 [ratL s.1,ratL t.1] (ratL (jR s.1 t.1)))) ?_
 refine cB ?_
 refine cp bI ((zU s.2 t.2 (by omega):aN Tryz.prog 167 [ratL s.2,ratL t.2] (ratL (kC s.2 t.2)))) ?_
 refine cH ?_
 refine cp bI (iN (jR s.1 t.1) (kC s.2 t.2) (by omega)) ?_
 refine dI ?_
 refine aY (b:=_) rfl (decide_eq_true hcm) ?_
 refine cU ?_
 refine aB rfl (aMz aK4 nQ) ?_
 refine bY ?_
 exact nL [] rfl rfl rfl (d8.csize _) (fN _) mH (.pure (d8.pure _)) rfl (.pure rfl)
namespace Zq73
theorem cK {p q:Prop} (k:q) (e:p=q:=by simp only [e1,e2,e3,e4,p1,p2,p3,q1,q2,q3,l1,t0,t1,r1,r2,r3,r4,Nat.zero_add,Nat.reduceMul,Nat.reduceAdd,b1,b2,b3,b4,b5,b6,i1,i2,i3,i4,i5,i6,Nat.reduceBEq,List.getD_cons_zero,List.getD_cons_succ,List.set_cons_zero,List.set_cons_succ,Nat.reduceEqDiff,reduceIte,if_true,if_false,a8,a9,aC cW,aC dR,aC aD,aT,a6,LV.kill,bH];exact rfl):p:=e.mpr k
end Zq73
open Zq73 in
theorem aIu (p q r s:Rat × Rat) (R:Nat) (hR:R≤100000000) (hp9:iQ R p) (hq9:iQ R q) (hr9:iQ R r) (hs9:iQ R s):aN Tryz.prog 101 [.agg [.agg [spL p,spL q],.agg [spL r,spL s]]] (spL (d2S p q r s)):=by
 have m1:=vA hp9 hs9
 have m2:=vA hq9 hr9
 refine dJ Tryz.func101 (ht:=(fun r=>LV.ren_pure r _ (d8.pure _))) ?_
 refine dP ?_
 refine aP 15 (by decide +kernel) ?_
 refine bY ?_
 refine cp bI (aCz p s R (by omega) hp9 hs9) ?_
 refine bY ?_
 refine cp bI (aCz q r R (by omega) hq9 hr9) ?_
 refine cp bI (aGU (muS p s) (muS q r) (R+R) (by omega) m1 m2) ?_
 refine cB ?_
 exact dE [] rfl rfl rfl (d8.csize _) (fN _) mH (.pure (d8.pure _))
namespace Zq48
theorem cK {p q:Prop} (k:q) (e:p=q:=by simp only [e1,e2,e3,e4,p1,p2,p3,q1,q2,q3,l1,t0,t1,r1,r2,r3,r4,Nat.zero_add,Nat.reduceMul,Nat.reduceAdd,b1,b2,b3,b4,b5,b6,i1,i2,i3,i4,i5,i6,Nat.reduceBEq,List.getD_cons_zero,List.getD_cons_succ,List.set_cons_zero,List.set_cons_succ,Nat.reduceEqDiff,reduceIte,if_true,if_false,a8,a9,aC cW,aC dR,aC aD,aT,a6,LV.kill,bH];exact rfl):p:=e.mpr k
end Zq48
open Zq48 in
theorem aFR (a b:Bx3) (R:Nat) (hR:R≤1000000000) (ha:bdB R a) (hb:bdB R b) (hm0:meS a.x b.x=true) (hm1:meS a.y b.y=true) (hm2:meS a.z b.z=true):aN Tryz.prog 44 [bxL a,bxL b] (bL true):=by
 obtain⟨a1,a2,a3⟩:=ha
 obtain⟨y1,y2,y3⟩:=hb
 refine dJ Tryz.func44 ?_
 refine eX ?_
 refine aK ?_
 refine bY ?_
 refine aY (b:=_) rfl (by decide) ?_
 refine cQ ?_
 refine dH 11 [9] (by decide +kernel) ?_
 refine bY ?_
 refine cp bI (o6 a.x b.x R hR a1 y1 hm0) ?_
 refine eX ?_
 refine bO (b:=_) rfl (rfl) ?_
 refine dI ?_
 refine bG (a7.kill _ 6) ?_
 refine cB ?_
 refine aK ?_
 refine bY ?_
 refine aY (b:=_) rfl (by decide) ?_
 refine cQ ?_
 refine dH 11 [9] (by decide +kernel) ?_
 refine bY ?_
 refine cp bI (o6 a.y b.y R hR a2 y2 hm1) ?_
 refine eX ?_
 refine bO (b:=_) rfl (rfl) ?_
 refine dI ?_
 refine bG (a7.kill _ 6) ?_
 refine cB ?_
 refine aK ?_
 refine bY ?_
 refine aY (b:=_) rfl (by decide) ?_
 refine cQ ?_
 refine dH 11 [9] (by decide +kernel) ?_
 refine bY ?_
 refine cp bI (o6 a.z b.z R hR a3 y3 hm2) ?_
 refine eX ?_
 refine bO (b:=_) rfl (rfl) ?_
 refine dI ?_
 refine bG (a7.kill _ 6) ?_
 refine cB ?_
 refine aK ?_
 refine bY ?_
 refine bO (b:=_) rfl (by decide) ?_
 refine cQ ?_
 exact b8 rfl (.pure rfl)
namespace Zq47
theorem cK {p q:Prop} (k:q) (e:p=q:=by simp only [e1,e2,e3,e4,p1,p2,p3,q1,q2,q3,l1,t0,t1,r1,r2,r3,r4,Nat.zero_add,Nat.reduceMul,Nat.reduceAdd,b1,b2,b3,b4,b5,b6,i1,i2,i3,i4,i5,i6,Nat.reduceBEq,List.getD_cons_zero,List.getD_cons_succ,List.set_cons_zero,List.set_cons_succ,Nat.reduceEqDiff,reduceIte,if_true,if_false,a8,a9,aC cW,aC dR,aC aD,aT,a6,LV.kill,bH];exact rfl):p:=e.mpr k
end Zq47
open Zq47 in
theorem aDA (a b:Bx3) (R:Nat) (hR:R≤1000000000) (ha:bdB R a) (hb:bdB R b) (hm0:meS a.x b.x=true) (hm1:meS a.y b.y=true) (hm2:meS a.z b.z=false):aN Tryz.prog 44 [bxL a,bxL b] (bL false):=by
 obtain⟨a1,a2,a3⟩:=ha
 obtain⟨y1,y2,y3⟩:=hb
 refine dJ Tryz.func44 ?_
 refine eX ?_
 refine aK ?_
 refine bY ?_
 refine aY (b:=_) rfl (by decide) ?_
 refine cQ ?_
 refine dH 11 [9] (by decide +kernel) ?_
 refine bY ?_
 refine cp bI (o6 a.x b.x R hR a1 y1 hm0) ?_
 refine eX ?_
 refine bO (b:=_) rfl (rfl) ?_
 refine dI ?_
 refine bG (a7.kill _ 6) ?_
 refine cB ?_
 refine aK ?_
 refine bY ?_
 refine aY (b:=_) rfl (by decide) ?_
 refine cQ ?_
 refine dH 11 [9] (by decide +kernel) ?_
 refine bY ?_
 refine cp bI (o6 a.y b.y R hR a2 y2 hm1) ?_
 refine eX ?_
 refine bO (b:=_) rfl (rfl) ?_
 refine dI ?_
 refine bG (a7.kill _ 6) ?_
 refine cB ?_
 refine aK ?_
 refine bY ?_
 refine aY (b:=_) rfl (by decide) ?_
 refine cQ ?_
 refine dH 11 [9] (by decide +kernel) ?_
 refine bY ?_
 refine cp bI (u5 a.z b.z R hR a3 y3 hm2) ?_
 refine eX ?_
 refine aY (b:=_) rfl (rfl) ?_
 refine cQ ?_
 exact b8 rfl (.pure rfl)
namespace Zq46
theorem cK {p q:Prop} (k:q) (e:p=q:=by simp only [e1,e2,e3,e4,p1,p2,p3,q1,q2,q3,l1,t0,t1,r1,r2,r3,r4,Nat.zero_add,Nat.reduceMul,Nat.reduceAdd,b1,b2,b3,b4,b5,b6,i1,i2,i3,i4,i5,i6,Nat.reduceBEq,List.getD_cons_zero,List.getD_cons_succ,List.set_cons_zero,List.set_cons_succ,Nat.reduceEqDiff,reduceIte,if_true,if_false,a8,a9,aC cW,aC dR,aC aD,aT,a6,LV.kill,bH];exact rfl):p:=e.mpr k
end Zq46
open Zq46 in
theorem aDB (a b:Bx3) (R:Nat) (hR:R≤1000000000) (ha:bdB R a) (hb:bdB R b) (hm0:meS a.x b.x=true) (hm1:meS a.y b.y=false):aN Tryz.prog 44 [bxL a,bxL b] (bL false):=by
 obtain⟨a1,a2,a3⟩:=ha
 obtain⟨y1,y2,y3⟩:=hb
 refine dJ Tryz.func44 ?_
 refine eX ?_
 refine aK ?_
 refine bY ?_
 refine aY (b:=_) rfl (by decide) ?_
 refine cQ ?_
 refine dH 11 [9] (by decide +kernel) ?_
 refine bY ?_
 refine cp bI (o6 a.x b.x R hR a1 y1 hm0) ?_
 refine eX ?_
 refine bO (b:=_) rfl (rfl) ?_
 refine dI ?_
 refine bG (a7.kill _ 6) ?_
 refine cB ?_
 refine aK ?_
 refine bY ?_
 refine aY (b:=_) rfl (by decide) ?_
 refine cQ ?_
 refine dH 11 [9] (by decide +kernel) ?_
 refine bY ?_
 refine cp bI (u5 a.y b.y R hR a2 y2 hm1) ?_
 refine eX ?_
 refine aY (b:=_) rfl (rfl) ?_
 refine cQ ?_
 exact b8 rfl (.pure rfl)
namespace Zq45
theorem cK {p q:Prop} (k:q) (e:p=q:=by simp only [e1,e2,e3,e4,p1,p2,p3,q1,q2,q3,l1,t0,t1,r1,r2,r3,r4,Nat.zero_add,Nat.reduceMul,Nat.reduceAdd,b1,b2,b3,b4,b5,b6,i1,i2,i3,i4,i5,i6,Nat.reduceBEq,List.getD_cons_zero,List.getD_cons_succ,List.set_cons_zero,List.set_cons_succ,Nat.reduceEqDiff,reduceIte,if_true,if_false,a8,a9,aC cW,aC dR,aC aD,aT,a6,LV.kill,bH];exact rfl):p:=e.mpr k
end Zq45
open Zq45 in
theorem aEf (a b:Bx3) (R:Nat) (hR:R≤1000000000) (ha:bdB R a) (hb:bdB R b) (hm0:meS a.x b.x=false):aN Tryz.prog 44 [bxL a,bxL b] (bL false):=by
 obtain⟨a1,a2,a3⟩:=ha
 obtain⟨y1,y2,y3⟩:=hb
 refine dJ Tryz.func44 ?_
 refine eX ?_
 refine aK ?_
 refine bY ?_
 refine aY (b:=_) rfl (by decide) ?_
 refine cQ ?_
 refine dH 11 [9] (by decide +kernel) ?_
 refine bY ?_
 refine cp bI (u5 a.x b.x R hR a1 y1 hm0) ?_
 refine eX ?_
 refine aY (b:=_) rfl (rfl) ?_
 refine cQ ?_
 exact b8 rfl (.pure rfl)
theorem aFq (a b:Bx3) (R:Nat) (hR:R≤1000000000) (ha:bdB R a) (hb:bdB R b):aN Tryz.prog 44 [bxL a,bxL b] (bL (meB a b)):=by
 unfold meB
 cases h0:meS a.x b.x with
 | false=>exact aEf a b R hR ha hb h0
 | true =>
  cases h1:meS a.y b.y with
  | false=>exact aDB a b R hR ha hb h0 h1
  | true =>
   cases h2:meS a.z b.z with
   | false=>exact aDA a b R hR ha hb h0 h1 h2
   | true=>exact aFR a b R hR ha hb h0 h1 h2
namespace Zq82
theorem cK {p q:Prop} (k:q) (e:p=q:=by simp only [e1,e2,e3,e4,p1,p2,p3,q1,q2,q3,l1,t0,t1,r1,r2,r3,r4,Nat.zero_add,Nat.reduceMul,Nat.reduceAdd,b1,b2,b3,b4,b5,b6,i1,i2,i3,i4,i5,i6,Nat.reduceBEq,List.set_cons_zero,List.set_cons_succ,Nat.reduceEqDiff,reduceIte,if_true,if_false,a8,a9,aC cW,aC dR,aC aD,aT,a6,LV.kill,bH];exact rfl):p:=e.mpr k
end Zq82
open Zq82 in
theorem aHJ (s:Rat × Rat) (h1:rl s.1≤1000000000) (h2:rl s.2≤1000000000):aN Tryz.prog 256 [spL s] (.tup [iL (if dM s.1=dM s.2 then dM s.1 else 0),bL (decide (dM s.1=dM s.2))]):=by
 refine dJ Tryz.func256 (ht:=(gU rfl rfl)) ?_
 refine eI ?_
 refine aP 8 (by decide +kernel) ?_
 refine cU ?_
 refine cp cS (jF _ (by omega)) ?_
 refine cU ?_
 refine cp cS (jF _ (by omega)) ?_
 refine cH ?_
 refine aQ rfl (fun h14r h14=>?_) (fun h14r h14=>?_)
 ·refine eI ?_
  rw [if_neg h14,decide_eq_false h14]
  exact pM rfl (.pure rfl) rfl (.pure rfl)
 ·refine cG ?_
  have h14e:dM s.1=dM s.2:=by simpa using h14
  rw [if_pos h14e,decide_eq_true h14e]
  exact pM rfl (.pure rfl) rfl (.pure rfl)
namespace Zq131
theorem cK {p q:Prop} (k:q) (e:p=q:=by simp only [e1,e2,e3,e4,p1,p2,p3,q1,q2,q3,l1,t0,t1,r1,r2,r3,r4,Nat.zero_add,Nat.reduceMul,Nat.reduceAdd,b1,b2,b3,b4,b5,b6,i1,i2,i3,i4,i5,i6,Nat.reduceBEq,etk,ers,aC cW,List.length_map,cJ,eA,dC,List.length_cons,List.length_nil,List.nil_append,List.map_nil,List.take_nil,List.append_nil,List.set_cons_zero,List.set_cons_succ,Nat.reduceEqDiff,reduceIte,if_true,if_false,a8,a9,aC cW,aC dR,aC aD,aT,a6,LV.kill,bH];exact rfl):p:=e.mpr k
end Zq131
open Zq131 in
theorem aGb (po:List PoR) (h0:0<po.length) (hl:po.length≤1000):aN Tryz.prog 110 [.list 12 (po.map eB)] (.list 9 ((po.map (·.p)).map dG)):=by
 refine dJ Tryz.func110 (ht:=(fun g=>LV.ren_pure g _ (aJ cW _ _))) ?_
 have etk:True:=trivial
 have ers:True:=trivial
 refine qG ?_
 refine fV (a7.own (t:=3) 16 9 rfl rfl) ?_
 refine lO (fun(j:Nat) L=>(((((St.mk L.slot (hp [(16,⟨9,((po.map (·.p)).take j).map dG,true⟩)])).put (some 3) (.ref 16 9 0 j)).put (some 6) (.list 12 (po.map eB))).put (some 7) (aG po.length)).put (some 8) (aG j))) (fun j=>j≤po.length) (fun j=>po.length-j) 0 (Nat.zero_le _) ?_
 rintro j L1 hj
 refine bY ?_
 refine aQ rfl (fun h9r h9=>?_) (fun h9r h9=>?_)
 ·have hj2:j<po.length:=by omega
  have ers:(po.map (·.p)).take j++[(po.getD j default).p]=(po.map (·.p)).take (j+1):=iY (fun q:PoR=>q.p) po hj2
  have etk:(((po.map (·.p)).take j).map dG).take j=((po.map (·.p)).take j).map dG:=List.take_of_length_le (by simp;omega)
  refine jT ?_
  refine bC rfl (.appX (d:=16) (news:=[dG (po.getD j default).p]) rfl rfl rfl rfl (by simp;omega) (.inl rfl) (by decide) Tryz.underlying165 Tryz.underlying165 Z40 kS cs B40 (.inl ⟨15,0,_,rfl,by decide,rfl,rfl,by simp,rfl,by simp [aV,cW.pure]⟩) (by simp;omega) (by simp;omega) (by decide)) ?_
  refine cB ?_
  refine bG ((a7.kill _ 5).trans (a7.kill _ 15)) ?_
  refine aB rfl (.bin rfl rfl (dA (by omega))) ?_
  refine dI ?_
  exact kE (j+1) (by omega)
 ·obtain rfl:j=po.length:=by omega
  have hE:(po.map (·.p)).take po.length=(po.map (·.p)):=List.take_of_length_le (by simp)
  refine cH ?_
  simp only [hE]
  exact jV [16] rfl rfl (cC cW rfl rfl (by simp))
namespace Zq99
theorem cK {p q:Prop} (k:q) (e:p=q:=by simp only [e1,e2,e3,e4,p1,p2,p3,q1,q2,q3,l1,t0,t1,r1,r2,r3,r4,Nat.zero_add,Nat.reduceMul,Nat.reduceAdd,b1,b2,b3,b4,b5,b6,i1,i2,i3,i4,i5,i6,Nat.reduceBEq,jU,ebk,egd,List.length_map,List.set_cons_zero,List.set_cons_succ,Nat.reduceEqDiff,reduceIte,if_true,if_false,a8,a9,aC cW,aC dR,aC aD,aT,a6,LV.kill,bH];exact rfl):p:=e.mpr k
end Zq99
open Zq99 in
theorem aDi (p:V3) (l:List V3) (R:Nat) (hR:R≤1000000) (hpb:fH R p) (h0:0<l.length) (hl9:l.length≤1000) (hl:∀ q∈l,fH R q):aN Tryz.prog 257 [dG p,.list 9 (l.map dG)] (spL (alS p l)):=by
 have hdl:∀ q∈l,rl (gI p q)≤10*R+10:=fun q hq=>by
  obtain⟨a1,a2,a3⟩:=hpb
  obtain⟨y1,y2,y3⟩:=hl q hq
  have e0:=bR p.x q.x
  have e5:=bR p.y q.y
  have e6:=bR p.z q.z
  have e7:=f7 (0+p.x*q.x) (p.y*q.y)
  have e8:=f7 (0+p.x*q.x+p.y*q.y) (p.z*q.z)
  have e9:(0:Rat)+p.x*q.x=p.x*q.x:=by grind
  unfold gI
  rw [e9] at e7 e8 ⊢
  omega
 have hdR:∀ x∈l.map (gI p),rl x≤10*R+10:=fun x hx=>by
  obtain⟨q,hq,rfl⟩:=List.mem_map.1 hx
  exact hdl q hq
 refine dJ Tryz.func257 (ht:=(fun r=>LV.ren_pure r _ (d8.pure _))) ?_
 have ebk:True:=trivial
 have egd:True:=trivial
 refine nH ?_
 refine lO (fun(i:Nat) L=>(((((((St.mk L.slot (hp [(2,⟨9,[dG p],true⟩),(4,⟨6,[spL (0,0)],true⟩),(5,⟨6,[spL (wR (l.map (gI p)) i)],true⟩)])).put (some 2) (.eptr 2 9 0 0)).put (some 4) (.eptr 4 6 0 0)).put (some 5) (.eptr 5 6 0 0)).put (some 9) (.list 9 (l.map dG))).put (some 10) (aG l.length)).put (some 11) (aG i))) (fun i=>i≤l.length) (fun i=>l.length-i) 0 (Nat.zero_le _) ?_
 rintro i L1 hi
 refine bY ?_
 refine aQ rfl (fun h12r h12=>?_) (fun h12r h12=>?_)
 ·have rC:i<l.length:=by omega
  have hli:=hl (l.getD i default) (by rw [List.getD_eq_getElem?_getD,List.getElem?_eq_getElem rC];exact List.getElem_mem rC)
  have hdi:=hdl (l.getD i default) (by rw [List.getD_eq_getElem?_getD,List.getElem?_eq_getElem rC];exact List.getElem_mem rC)
  have egd:(l.map (gI p)).getD i 0=gI p (l.getD i default):=by rw [List.getD_eq_getElem?_getD,List.getElem?_map,List.getElem?_eq_getElem rC,List.getD_eq_getElem?_getD,List.getElem?_eq_getElem rC];rfl
  have hr1:=uX (R:=10*R+10) (by omega) hdR
  have hr3:=aEG (R:=10*R+10) (by omega) hr1 i
  have ebk:wR (l.map (gI p)) (i+1)=nR (if i=0 then((l.map (gI p)).getD i 0,(l.map (gI p)).getD i 0) else wR (l.map (gI p)) i) ((l.map (gI p)).getD i 0,(l.map (gI p)).getD i 0):=rfl
  rw [egd] at ebk
  have hVD:=uL p (l.getD i default) R (by omega) hpb hli
  refine oB ?_
  refine cp bI (hVD) ?_
  refine cp cS (fT (gI p (l.getD i default)) (by omega)) ?_
  refine cQ ?_
  refine aQ rfl (fun h21r h21=>?_) (fun h21r h21=>?_)
  ·have hi0:i=0:=by omega
   rw [if_pos hi0] at ebk
   refine eI ?_
   first | refine cp bI (iT (wR (l.map (gI p)) i) (gI p (l.getD i default),gI p (l.getD i default)) (by have:=hr3.1;show _+rl (gI p (l.getD i default))≤_;omega) (by have:=hr3.2;show _+rl (gI p (l.getD i default))≤_;omega)) ?_ | refine cp bI (iT (gI p (l.getD i default),gI p (l.getD i default)) (gI p (l.getD i default),gI p (l.getD i default)) (by show rl (gI p (l.getD i default))+rl (gI p (l.getD i default))≤_;omega) (by show rl (gI p (l.getD i default))+rl (gI p (l.getD i default))≤_;omega)) ?_
   refine cB ?_
   refine bG ((a7.kill _ 7).trans (a7.kill _ 8)) ?_
   refine aB rfl (.bin rfl rfl (dA (by omega))) ?_
   refine dI ?_
   exact kE (i+1) (by omega)
  ·have hi0:¬ i=0:=by omega
   rw [if_neg hi0] at ebk
   refine dX ?_
   first | refine cp bI (iT (wR (l.map (gI p)) i) (gI p (l.getD i default),gI p (l.getD i default)) (by have:=hr3.1;show _+rl (gI p (l.getD i default))≤_;omega) (by have:=hr3.2;show _+rl (gI p (l.getD i default))≤_;omega)) ?_ | refine cp bI (iT (gI p (l.getD i default),gI p (l.getD i default)) (gI p (l.getD i default),gI p (l.getD i default)) (by show rl (gI p (l.getD i default))+rl (gI p (l.getD i default))≤_;omega) (by show rl (gI p (l.getD i default))+rl (gI p (l.getD i default))≤_;omega)) ?_
   refine cB ?_
   refine bG ((a7.kill _ 7).trans (a7.kill _ 8)) ?_
   refine aB rfl (.bin rfl rfl (dA (by omega))) ?_
   refine dI ?_
   exact kE (i+1) (by omega)
 ·obtain rfl:l.length=i:=by omega
  have hE9:wR (l.map (gI p)) l.length=alS p l:=by unfold alS gS;rw [List.length_map]
  refine cH ?_
  rw [←hE9]
  exact dE [] rfl rfl rfl (d8.csize _) (fN _) mH (.pure (d8.pure _))
theorem aGO {r:V3} {R:Nat} {l:List V3} (hr:fH R r) (hl:∀ q∈l,fH R q):iQ (10*R+10) (alS r l):=by
 unfold alS
 refine yT (by omega) fun x hx=>?_
 obtain⟨q,hq,rfl⟩:=List.mem_map.1 hx
 have:=sT hr (hl q hq)
 omega
theorem aJD {x y:Int} (h1:-1≤x∧x≤1) (h2:-1≤y∧y≤1):-1≤x*y∧x*y≤1:=by
 obtain⟨a,b⟩:=h1
 obtain⟨c,d⟩:=h2
 rcases(show x=-1∨x=0∨x=1 by omega) with rfl | rfl | rfl<;>rcases(show y=-1∨y=0∨y=1 by omega) with rfl | rfl | rfl<;>decide
theorem aJ2 (s t:Rat × Rat):opS s t=(decide (dM s.1=dM s.2) && (decide (dM t.1=dM t.2) && decide ((if dM s.1=dM s.2 then dM s.1 else 0)*(if dM t.1=dM t.2 then dM t.1 else 0)<0))):=by
 unfold opS
 by_cases h1:dM s.1=dM s.2
 ·by_cases h2:dM t.1=dM t.2
  ·rw [if_pos h1,if_pos h2,Bool.and_assoc]
  ·rw [decide_eq_false h2];simp
 ·rw [decide_eq_false h1];simp
theorem aHG (x:Rat):-1≤dM x∧dM x≤1:=by
 unfold dM
 split
 ·decide
 ·split<;>decide
theorem aFI (s:Rat × Rat):-1≤(if dM s.1=dM s.2 then dM s.1 else 0)∧(if dM s.1=dM s.2 then dM s.1 else 0)≤1:=by
 split
 ·exact aHG _
 ·decide
namespace Zq132
theorem cK {p q:Prop} (k:q) (e:p=q:=by simp only [e1,e2,e3,e4,p1,p2,p3,q1,q2,q3,l1,t0,t1,r1,r2,r3,r4,Nat.zero_add,Nat.reduceMul,Nat.reduceAdd,b1,b2,b3,b4,b5,b6,i1,i2,i3,i4,i5,i6,Nat.reduceBEq,List.set_cons_zero,List.set_cons_succ,Nat.reduceEqDiff,reduceIte,if_true,if_false,a8,a9,aC cW,aC dR,aC aD,aT,a6,LV.kill,bH];exact rfl):p:=e.mpr k
end Zq132
open Zq132 in
theorem aCN (r:V3) (R:Nat) (hR:R≤1000000) (hr:fH R r) (lp lq:List V3) (hlp0:0<lp.length) (hlp9:lp.length≤1000) (hlp:∀ q∈lp,fH R q) (hlq0:0<lq.length) (hlq9:lq.length≤1000) (hlq:∀ q∈lq,fH R q):aN Tryz.prog 202 [.agg [.list 9 (lp.map dG),.list 9 (lq.map dG)],dG r] (.tup [iL (if dM (xU r lp lq).1=dM (xU r lp lq).2 then dM (xU r lp lq).1 else 0),bL (decide (dM (xU r lp lq).1=dM (xU r lp lq).2))]):=by
 have allp:=aDi r lp R hR hr hlp0 hlp9 hlp
 have bllp:iQ (10*R+10) (alS r lp):=aGO hr hlp
 have allq:=aDi r lq R hR hr hlq0 hlq9 hlq
 have bllq:iQ (10*R+10) (alS r lq):=aGO hr hlq
 have bsd:=aFX bllp bllq
 obtain⟨bs1,bs2⟩:=bsd
 refine dJ Tryz.func202 (ht:=(gU rfl rfl)) ?_
 refine eP ?_
 refine aP 14 (by decide +kernel) ?_
 refine dI ?_
 refine cp bI (allp) ?_
 refine dI ?_
 refine cp bI (allq) ?_
 refine cp bI (aGU (alS r lp) (alS r lq) (10*R+10) (by omega) bllp bllq) ?_
 refine cp cS (aHJ (xU r lp lq) (Nat.le_trans bs1 (by omega)) (Nat.le_trans bs2 (by omega))) ?_
 refine dP ?_
 exact pM rfl (.pure rfl) rfl (.pure rfl)
namespace Zq130
theorem cK {p q:Prop} (k:q) (e:p=q:=by simp only [e1,e2,e3,e4,p1,p2,p3,q1,q2,q3,l1,t0,t1,r1,r2,r3,r4,Nat.zero_add,Nat.reduceMul,Nat.reduceAdd,b1,b2,b3,b4,b5,b6,i1,i2,i3,i4,i5,i6,Nat.reduceBEq,List.set_cons_zero,List.set_cons_succ,Nat.reduceEqDiff,reduceIte,if_true,if_false,a8,a9,aC cW,aC dR,aC aD,aT,a6,LV.kill,bH];exact rfl):p:=e.mpr k
end Zq130
open Zq130 in
theorem aG4 (r:V3) (R:Nat) (hR:R≤1000000) (hr:fH R r) (lp lq lu lv:List V3) (hlp0:0<lp.length) (hlp9:lp.length≤1000) (hlp:∀ q∈lp,fH R q) (hlq0:0<lq.length) (hlq9:lq.length≤1000) (hlq:∀ q∈lq,fH R q) (hlu0:0<lu.length) (hlu9:lu.length≤1000) (hlu:∀ q∈lu,fH R q) (hlv0:0<lv.length) (hlv9:lv.length≤1000) (hlv:∀ q∈lv,fH R q):aN Tryz.prog 112 [dG r,.agg [.list 9 (lp.map dG),.list 9 (lq.map dG)],.agg [.list 9 (lu.map dG),.list 9 (lv.map dG)]] (bL (opS (xU r lp lq) (xU r lu lv))):=by
 have g1:=aFI (xU r lp lq)
 have g2:=aFI (xU r lu lv)
 have hm:=aJD g1 g2
 have hoe:=aJ2 (xU r lp lq) (xU r lu lv)
 have hsd1:LV.pure (.agg [.list 9 (lp.map dG),.list 9 (lq.map dG)])=true:=by simp [LV.pure,aV,aF cW]
 have hsd2:LV.pure (.agg [.list 9 (lu.map dG),.list 9 (lv.map dG)])=true:=by simp [LV.pure,aV,aF cW]
 refine dJ Tryz.func112 ?_
 refine cH ?_
 refine cp bI (aCN r R hR hr lp lq hlp0 hlp9 hlp hlq0 hlq9 hlq) ?_
 refine cQ ?_
 refine cp bI (aCN r R hR hr lu lv hlu0 hlu9 hlu hlv0 hlv9 hlv) ?_
 refine cQ ?_
 refine eD 24 rfl (fun h24r h24=>?_) (fun h24r h24=>?_)
 ·refine dI ?_
  refine eD 27 rfl (fun h27r h27=>?_) (fun h27r h27=>?_)
  ·refine cU ?_
   refine aB (aO (v:=true) rfl rfl (h27r) rfl) (.bin rfl rfl (xF (by omega) (by omega))) ?_
   refine bY ?_
   rw [hoe,h24r,h27r]
   exact b8 rfl (.pure rfl)
  ·refine eP ?_
   rw [hoe,h24r,h27r]
   exact b8 rfl (.pure rfl)
 ·refine cH ?_
  rw [hoe,h24r]
  exact b8 rfl (.pure rfl)
namespace Zq102
theorem cK {p q:Prop} (k:q) (e:p=q:=by simp only [e1,e2,e3,e4,p1,p2,p3,q1,q2,q3,l1,t0,t1,r1,r2,r3,r4,Nat.zero_add,Nat.reduceMul,Nat.reduceAdd,b1,b2,b3,b4,b5,b6,i1,i2,i3,i4,i5,i6,Nat.reduceBEq,List.set_cons_zero,List.set_cons_succ,Nat.reduceEqDiff,reduceIte,if_true,if_false,a8,a9,aC cW,aC dR,aC aD,aT,a6,LV.kill,bH];exact rfl):p:=e.mpr k
end Zq102
open Zq102 in
theorem aFE (q:PoR) (R:Nat) (hR:R≤1000000) (h:okP R q):aN Tryz.prog 201 [eB q] (eB q):=by
 obtain⟨hp,hw,hpos⟩:=h
 have hr0:rl 0=1:=rfl
 have hA:=eF q.w 0 (by omega)
 rw [Rat.add_zero] at hA
 have hz:fH 1 (⟨0,0,0⟩:V3):=⟨by decide,by decide,by decide⟩
 have hV:aN Tryz.prog 255 [dG q.p,dG ⟨0,0,0⟩] (dG q.p):=by
  have:=aKd q.p ⟨0,0,0⟩ (R+1) (by omega) (hp.le (by omega)) (hz.le (by omega))
  rwa [show v3a q.p ⟨0,0,0⟩=q.p from by unfold v3a;simp only [Rat.add_zero]] at this
 refine dJ Tryz.func201 (ht:=(fun g=>LV.ren_pure g _ (dR.pure _))) ?_
 refine dP ?_
 refine aP 9 (by decide +kernel) ?_
 refine cU ?_
 refine w8 aMy ?_
 refine cp bI (hV) ?_
 refine cU ?_
 refine aB rfl (.build0 sP i9) ?_
 refine cp bI (hA) ?_
 refine w8 (aLf rfl rfl) ?_
 refine cB ?_
 exact dE [] rfl rfl rfl cs (b7 cs rfl) tP (.pure pu)
namespace Zq103
theorem cK {p q:Prop} (k:q) (e:p=q:=by simp only [e1,e2,e3,e4,p1,p2,p3,q1,q2,q3,l1,t0,t1,r1,r2,r3,r4,Nat.zero_add,Nat.reduceMul,Nat.reduceAdd,b1,b2,b3,b4,b5,b6,i1,i2,i3,i4,i5,i6,Nat.reduceBEq,List.length_map,List.set_cons_zero,List.set_cons_succ,Nat.reduceEqDiff,reduceIte,if_true,if_false,a8,a9,aC cW,aC dR,aC aD,aT,a6,LV.kill,bH];exact rfl):p:=e.mpr k
end Zq103
open Zq103 in
theorem aC2 (d:Nat) (kn:List Rat) (po:List PoR) (R:Nat) (hR:R≤1000000) (h:cvR po d R):aN Tryz.prog 111 [.agg [aG d,.list 3 (kn.map ratL),.list 12 (po.map eB)]] (.tup [dG (po.getD 0 default).p,dG (po.getD (po.length-1) default).p]):=by
 have hl:=h.hl
 have h6:=h.h6
 have hcp:LV.pure (.agg [aG d,.list 3 (kn.map ratL),.list 12 (po.map eB)])=true:=by simp [LV.pure,aV,aF aD,aF dR]
 have hc1:=aFE (po.getD 0 default) R hR (h.ok _ (jY (by omega)))
 have hc2:=aFE (po.getD (po.length-1) default) R hR (h.ok _ (jY (by omega)))
 refine dJ Tryz.func111 (ht:=(gU (cW.pure _) (cW.pure _))) ?_
 refine n8 ?_
 refine aQ rfl (fun h7r h7=>?_) (fun h7r h7=>?_)
 ·omega
 ·refine dI ?_
  refine aIb rfl 16 2 [6,7,8,9,10,11,12,13,14,15] (by decide +kernel) rfl ?_
  simp only [List.take_succ_cons,List.take_zero,e1,e2,e3,e4,p1,p2,p3,q1,q2,q3,l1,t0,t1,r1,r2,r3,r4,Nat.zero_add,Nat.reduceMul,Nat.reduceAdd,b1,b2,b3,b4,b5,b6,i1,i2,i3,i4,i5,i6,Nat.reduceBEq,bh7,dh1,dh2,dh3]
  refine cB ?_
  refine cp cS (hc1) ?_
  refine bY ?_
  refine aB rfl (.bin rfl rfl (iJ (by omega) (by omega))) ?_
  refine cU ?_
  refine cp cS (hc2) ?_
  refine bD ?_
  refine aDC rfl rfl (fun om h=>by cases h;exact⟨_,_,_,_,_,rfl,rfl⟩) ?_
  simp only [List.drop_succ_cons,List.drop_zero]
  refine dX ?_
  exact aEY [] rfl rfl rfl cs (b7 cs rfl) kS (.pure pu) rfl rfl cs (b7 cs rfl) kS (.pure pu)
structure M3 where
 a:V3
 b:V3
 c:V3
 t:V3
 deriving Inhabited
def pS (m:M3):LV:=.agg [.agg [dG m.a,dG m.b,dG m.c],dG m.t]
theorem qM:EncOK pS 36 true:=⟨fun m=>by simp [pS,LV.csize,aL,cW.csize],fun _=>rfl,fun m=>by simp [pS,LV.pure,aV,cW.pure]⟩
def m3t (m:M3) (p:V3):V3:=⟨gI m.a p,gI m.b p,gI m.c p⟩
def bdM (R:Nat) (m:M3):Prop:=fH R m.a∧fH R m.b∧fH R m.c∧fH R m.t
theorem aJs {R S:Nat} {m:M3} {p:V3} (hm:bdM R m) (hp:fH S p):fH (3*(R+S)+4) (m3t m p):=⟨sT hm.1 hp,sT hm.2.1 hp,sT hm.2.2.1 hp⟩
instance:EC Tryz.prog 68 pS 36 true ⟨⟨0,0,0⟩,⟨0,0,0⟩,⟨0,0,0⟩,⟨0,0,0⟩⟩:=⟨qM,Z68,T68⟩
theorem aDw (p:V3):(dG p).at 0 9 true=some (dG p):=b7 (cW.csize p) rfl
theorem zJ (m:M3):(pS m).at 0 9 true=some (dG m.a):=by
 simp [pS,LV.at,sJ,LV.csize,aL,cW.csize,aDw]
theorem zF (m:M3):(pS m).at 9 9 true=some (dG m.b):=by
 simp [pS,LV.at,sJ,LV.csize,aL,cW.csize,aDw]
theorem yM (m:M3):(pS m).at 18 9 true=some (dG m.c):=by
 simp [pS,LV.at,sJ,LV.csize,aL,cW.csize,aDw]
theorem aH5 (m:M3):(pS m).at 27 9 true=some (dG m.t):=by
 simp [pS,LV.at,sJ,LV.csize,aL,cW.csize,aDw]
theorem qT (m:M3) (b:Nat):(pS m).kill b=pS m:=LV.kill_pure b _ (qM.pure m)
section
variable {P:Program} {H:cM} {ρ:Operand→LV} {T E:TypeId}
theorem aL0 {o0 o1 o2:Operand} {a b c:V3} [u:UN P T (.array 3 E)] [t:TI P E 9 true] [z:ZI P T (.agg [dG ⟨0,0,0⟩,dG ⟨0,0,0⟩,dG ⟨0,0,0⟩])] (h0:ρ o0=dG a) (h1:ρ o1=dG b) (h2:ρ o2=dG c) :
  OpP P H ρ (.build T #[(0,o0),(1,o1),(2,o2)]) (.agg [dG a,dG b,dG c]):=by
 have:=OpP.bda (H:=H) (ρ:=ρ) (ps:=#[(0,o0),(1,o1),(2,o2)]) (u:=u) (t:=t) (z:=z) (by simp [lay,cW.csize,cW.isAgg]) (by
  intro p hp
  simp only [List.mem_cons,List.not_mem_nil,or_false] at hp
  rcases hp with rfl | rfl | rfl
  ·exact⟨_,rfl,by rw [h0];simp [lay,cW.csize,cW.isAgg],by rw [h0];exact LV.pure_ne_any (cW.pure _),by rw [h0];exact LV.pure_ne_tup (cW.pure _)⟩
  ·exact⟨_,rfl,by rw [h1];simp [lay,cW.csize,cW.isAgg],by rw [h1];exact LV.pure_ne_any (cW.pure _),by rw [h1];exact LV.pure_ne_tup (cW.pure _)⟩
  ·exact⟨_,rfl,by rw [h2];simp [lay,cW.csize,cW.isAgg],by rw [h2];exact LV.pure_ne_any (cW.pure _),by rw [h2];exact LV.pure_ne_tup (cW.pure _)⟩)
 simpa only [eN,List.map,List.foldl,List.set,h0,h1,h2] using this
end
instance:ZI Tryz.prog 66 (.agg [dG ⟨0,0,0⟩,dG ⟨0,0,0⟩,dG ⟨0,0,0⟩]):=⟨Z66⟩
instance:ZI Tryz.prog 68 (.agg [.agg [dG ⟨0,0,0⟩,dG ⟨0,0,0⟩,dG ⟨0,0,0⟩],dG ⟨0,0,0⟩]):=⟨Z68⟩
instance:AE Tryz.prog 68 pS 36 true ⟨⟨0,0,0⟩,⟨0,0,0⟩,⟨0,0,0⟩,⟨0,0,0⟩⟩:=⟨qM,Z68⟩
namespace Zq94
theorem cK {p q:Prop} (k:q) (e:p=q:=by simp only [e1,e2,e3,e4,p1,p2,p3,q1,q2,q3,l1,t0,t1,r1,r2,r3,r4,Nat.zero_add,Nat.reduceMul,Nat.reduceAdd,b1,b2,b3,b4,b5,b6,i1,i2,i3,i4,i5,i6,Nat.reduceBEq,List.set_cons_zero,List.set_cons_succ,Nat.reduceEqDiff,reduceIte,if_true,if_false,a8,a9,aC cW,aC dR,aC aD,aT,a6,LV.kill,bH];exact rfl):p:=e.mpr k
end Zq94
open Zq94 in
theorem aJL (p q r:V3) (R:Nat) (hR:R≤1000000) (hp:fH R p) (hq:fH R q) (hr:fH R r):aN Tryz.prog 253 [dG p,dG q,dG r] (ratL (gI p (nG q r))):=by
 have hx:=qE hq hr
 refine dJ Tryz.func253 ?_
 refine eP ?_
 refine aP 5 (by decide +kernel) ?_
 refine dI ?_
 refine cp bI (qO q r R (by omega) hq hr) ?_
 refine cp bI (uL p (nG q r) (4*R+5) (by omega) (hp.le (by omega)) hx) ?_
 refine cB ?_
 exact dE [] rfl rfl rfl (aD.csize _) (aH _) dD (.pure (aD.pure _))
namespace Zq97
theorem cK {p q:Prop} (k:q) (e:p=q:=by simp only [e1,e2,e3,e4,p1,p2,p3,q1,q2,q3,l1,t0,t1,r1,r2,r3,r4,Nat.zero_add,Nat.reduceMul,Nat.reduceAdd,b1,b2,b3,b4,b5,b6,i1,i2,i3,i4,i5,i6,Nat.reduceBEq,qT,List.set_cons_zero,List.set_cons_succ,Nat.reduceEqDiff,reduceIte,if_true,if_false,a8,a9,aC cW,aC dR,aC aD,aT,a6,LV.kill,bH];exact rfl):p:=e.mpr k
end Zq97
open Zq97 in
theorem aKC (m:M3) (R:Nat) (hR:R≤1000000) (hm:bdM R m):aN Tryz.prog 197 [pS m] (ratL (gI m.a (nG m.b m.c))):=by
 obtain⟨hm1,hm2,hm3,hm4⟩:=hm
 refine dJ Tryz.func197 ?_
 refine cG ?_
 refine aB rfl (.loadE rfl rfl rfl rfl (qM.csize m) (zJ m) kS) ?_
 refine cU ?_
 refine aB rfl (.loadE rfl rfl rfl rfl (qM.csize m) (zF m) kS) ?_
 refine cU ?_
 refine aB rfl (.loadE rfl rfl rfl rfl (qM.csize m) (yM m) kS) ?_
 refine cp nK (aJL m.a m.b m.c R hR hm1 hm2 hm3) ?_
 refine cB ?_
 exact dE [] rfl rfl rfl (aD.csize _) (aH _) dD (.pure (aD.pure _))
def trM (a b c:V3):LV:=.agg [dG a,dG b,dG c]
theorem wN (a b c:V3):(trM a b c).pure=true:=by simp only [trM,LV.pure,aV,cW.pure,Bool.and_self]
theorem aFc (m:M3) (q:V3):(pS m).put 27 (dG q)=some (pS ⟨m.a,m.b,m.c,q⟩):=by
 have hq:(dG m.t).put 0 (dG q)=some (dG q):=ptp
 simp [pS,LV.put,pO,LV.csize,aL,cW.csize,hq]
theorem aHy (m:M3):(pS m).at 0 27 true=some (.agg [dG m.a,dG m.b,dG m.c]):=by
 simp [pS,LV.at,sJ,LV.csize,aL,cW.csize,fQ]
namespace Zq98
theorem cK {p q:Prop} (k:q) (e:p=q:=by simp only [e1,e2,e3,e4,p1,p2,p3,q1,q2,q3,l1,t0,t1,r1,r2,r3,r4,Nat.zero_add,Nat.reduceMul,Nat.reduceAdd,b1,b2,b3,b4,b5,b6,i1,i2,i3,i4,i5,i6,Nat.reduceBEq,List.getD_cons_zero,List.getD_cons_succ,List.set_cons_zero,List.set_cons_succ,Nat.reduceEqDiff,reduceIte,if_true,if_false,a8,a9,aC cW,aC dR,aC aD,aT,a6,LV.kill,bH];exact rfl):p:=e.mpr k
end Zq98
open Zq98 in
theorem aMb (a b c:V3) (R:Nat) (hR:R≤1000000) (ha:fH R a) (hb:fH R b) (hc:fH R c):aN Tryz.prog 199 [.agg [dG a,dG b,dG c]] (.agg [dG ⟨a.x,b.x,c.x⟩,dG ⟨a.y,b.y,c.y⟩,dG ⟨a.z,b.z,c.z⟩]):=by
 obtain⟨a1,a2,a3⟩:=ha
 obtain⟨y1,y2,y3⟩:=hb
 obtain⟨z1,z2,z3⟩:=hc
 have hr0:rl 0=1:=rfl
 have hAax:=eF a.x 0 (by omega)
 rw [Rat.add_zero] at hAax
 have hAay:=eF a.y 0 (by omega)
 rw [Rat.add_zero] at hAay
 have hAaz:=eF a.z 0 (by omega)
 rw [Rat.add_zero] at hAaz
 have hAbx:=eF b.x 0 (by omega)
 rw [Rat.add_zero] at hAbx
 have hAby:=eF b.y 0 (by omega)
 rw [Rat.add_zero] at hAby
 have hAbz:=eF b.z 0 (by omega)
 rw [Rat.add_zero] at hAbz
 have hAcx:=eF c.x 0 (by omega)
 rw [Rat.add_zero] at hAcx
 have hAcy:=eF c.y 0 (by omega)
 rw [Rat.add_zero] at hAcy
 have hAcz:=eF c.z 0 (by omega)
 rw [Rat.add_zero] at hAcz
 refine dJ Tryz.func199 (ht:=(fun g=>LV.ren_pure g _ (wN _ _ _))) ?_
 refine oB ?_
 refine aK ?_
 refine bY ?_
 refine aY (b:=_) rfl (by decide) ?_
 refine n8 ?_
 refine aK ?_
 refine bY ?_
 refine aY (b:=_) rfl (by decide) ?_
 refine cG ?_
 refine aP 11 (by decide +kernel) ?_
 refine eI ?_
 try refine cK ?_
 first | refine cp bI hAax ?_ | refine cp bI hAay ?_ | refine cp bI hAaz ?_ | refine cp bI hAbx ?_ | refine cp bI hAby ?_ | refine cp bI hAbz ?_ | refine cp bI hAcx ?_ | refine cp bI hAcy ?_ | refine cp bI hAcz ?_
 refine cQ ?_
 refine aK ?_
 refine bY ?_
 refine aY (b:=_) rfl (by decide) ?_
 refine cG ?_
 refine aP 11 (by decide +kernel) ?_
 refine eI ?_
 try refine cK ?_
 first | refine cp bI hAax ?_ | refine cp bI hAay ?_ | refine cp bI hAaz ?_ | refine cp bI hAbx ?_ | refine cp bI hAby ?_ | refine cp bI hAbz ?_ | refine cp bI hAcx ?_ | refine cp bI hAcy ?_ | refine cp bI hAcz ?_
 refine cQ ?_
 refine aK ?_
 refine bY ?_
 refine aY (b:=_) rfl (by decide) ?_
 refine cG ?_
 refine aP 11 (by decide +kernel) ?_
 refine eI ?_
 try refine cK ?_
 first | refine cp bI hAax ?_ | refine cp bI hAay ?_ | refine cp bI hAaz ?_ | refine cp bI hAbx ?_ | refine cp bI hAby ?_ | refine cp bI hAbz ?_ | refine cp bI hAcx ?_ | refine cp bI hAcy ?_ | refine cp bI hAcz ?_
 refine cQ ?_
 refine aK ?_
 refine bY ?_
 refine bO (b:=_) rfl (by decide) ?_
 refine cQ ?_
 refine aK ?_
 refine bY ?_
 refine aY (b:=_) rfl (by decide) ?_
 refine n8 ?_
 refine aK ?_
 refine bY ?_
 refine aY (b:=_) rfl (by decide) ?_
 refine cG ?_
 refine aP 11 (by decide +kernel) ?_
 refine eI ?_
 try refine cK ?_
 first | refine cp bI hAax ?_ | refine cp bI hAay ?_ | refine cp bI hAaz ?_ | refine cp bI hAbx ?_ | refine cp bI hAby ?_ | refine cp bI hAbz ?_ | refine cp bI hAcx ?_ | refine cp bI hAcy ?_ | refine cp bI hAcz ?_
 refine cQ ?_
 refine aK ?_
 refine bY ?_
 refine aY (b:=_) rfl (by decide) ?_
 refine cG ?_
 refine aP 11 (by decide +kernel) ?_
 refine eI ?_
 try refine cK ?_
 first | refine cp bI hAax ?_ | refine cp bI hAay ?_ | refine cp bI hAaz ?_ | refine cp bI hAbx ?_ | refine cp bI hAby ?_ | refine cp bI hAbz ?_ | refine cp bI hAcx ?_ | refine cp bI hAcy ?_ | refine cp bI hAcz ?_
 refine cQ ?_
 refine aK ?_
 refine bY ?_
 refine aY (b:=_) rfl (by decide) ?_
 refine cG ?_
 refine aP 11 (by decide +kernel) ?_
 refine eI ?_
 try refine cK ?_
 first | refine cp bI hAax ?_ | refine cp bI hAay ?_ | refine cp bI hAaz ?_ | refine cp bI hAbx ?_ | refine cp bI hAby ?_ | refine cp bI hAbz ?_ | refine cp bI hAcx ?_ | refine cp bI hAcy ?_ | refine cp bI hAcz ?_
 refine cQ ?_
 refine aK ?_
 refine bY ?_
 refine bO (b:=_) rfl (by decide) ?_
 refine cQ ?_
 refine aK ?_
 refine bY ?_
 refine aY (b:=_) rfl (by decide) ?_
 refine n8 ?_
 refine aK ?_
 refine bY ?_
 refine aY (b:=_) rfl (by decide) ?_
 refine cG ?_
 refine aP 11 (by decide +kernel) ?_
 refine eI ?_
 try refine cK ?_
 first | refine cp bI hAax ?_ | refine cp bI hAay ?_ | refine cp bI hAaz ?_ | refine cp bI hAbx ?_ | refine cp bI hAby ?_ | refine cp bI hAbz ?_ | refine cp bI hAcx ?_ | refine cp bI hAcy ?_ | refine cp bI hAcz ?_
 refine cQ ?_
 refine aK ?_
 refine bY ?_
 refine aY (b:=_) rfl (by decide) ?_
 refine cG ?_
 refine aP 11 (by decide +kernel) ?_
 refine eI ?_
 try refine cK ?_
 first | refine cp bI hAax ?_ | refine cp bI hAay ?_ | refine cp bI hAaz ?_ | refine cp bI hAbx ?_ | refine cp bI hAby ?_ | refine cp bI hAbz ?_ | refine cp bI hAcx ?_ | refine cp bI hAcy ?_ | refine cp bI hAcz ?_
 refine cQ ?_
 refine aK ?_
 refine bY ?_
 refine aY (b:=_) rfl (by decide) ?_
 refine cG ?_
 refine aP 11 (by decide +kernel) ?_
 refine eI ?_
 try refine cK ?_
 first | refine cp bI hAax ?_ | refine cp bI hAay ?_ | refine cp bI hAaz ?_ | refine cp bI hAbx ?_ | refine cp bI hAby ?_ | refine cp bI hAbz ?_ | refine cp bI hAcx ?_ | refine cp bI hAcy ?_ | refine cp bI hAcz ?_
 refine cQ ?_
 refine aK ?_
 refine bY ?_
 refine bO (b:=_) rfl (by decide) ?_
 refine cQ ?_
 refine aK ?_
 refine bY ?_
 refine bO (b:=_) rfl (by decide) ?_
 refine cH ?_
 exact dE [] rfl rfl rfl cs (b7 cs rfl) T66 (.pure (wN ⟨a.x,b.x,c.x⟩ ⟨a.y,b.y,c.y⟩ ⟨a.z,b.z,c.z⟩))
namespace Zq96
theorem cK {p q:Prop} (k:q) (e:p=q:=by simp only [e1,e2,e3,e4,p1,p2,p3,q1,q2,q3,l1,t0,t1,r1,r2,r3,r4,Nat.zero_add,Nat.reduceMul,Nat.reduceAdd,b1,b2,b3,b4,b5,b6,i1,i2,i3,i4,i5,i6,Nat.reduceBEq,qT,List.getD_cons_zero,List.getD_cons_succ,List.set_cons_zero,List.set_cons_succ,Nat.reduceEqDiff,reduceIte,if_true,if_false,a8,a9,aC cW,aC dR,aC aD,aT,a6,LV.kill,bH];exact rfl):p:=e.mpr k
end Zq96
open Zq96 in
theorem aHs (m:M3) (R:Nat) (hR:R≤1000000) (hm:bdM R m) (p:V3) (hpb:fH R p):aN Tryz.prog 200 [pS m,dG p] (dG (m3t m p)):=by
 obtain⟨hm1,hm2,hm3,hm4⟩:=hm
 refine dJ Tryz.func200 (ht:=(fun r=>LV.ren_pure r _ (cW.pure _))) ?_
 refine n8 ?_
 refine aB rfl (.loadE (r:=.agg [dG m.a,dG m.b,dG m.c]) (n:=27) (ag:=true) rfl rfl rfl rfl (qM.csize m) (aHy m) T66) ?_
 refine cB ?_
 refine aK ?_
 refine bY ?_
 refine aY (b:=_) rfl (by decide) ?_
 refine jT ?_
 refine cp bI (uL m.a p R (by omega) hm1 hpb) ?_
 refine dX ?_
 refine bG (a7.kill _ 7) ?_
 refine cB ?_
 refine aK ?_
 refine bY ?_
 refine aY (b:=_) rfl (by decide) ?_
 refine jT ?_
 refine cp bI (uL m.b p R (by omega) hm2 hpb) ?_
 refine dX ?_
 refine bG (a7.kill _ 7) ?_
 refine cB ?_
 refine aK ?_
 refine bY ?_
 refine aY (b:=_) rfl (by decide) ?_
 refine jT ?_
 refine cp bI (uL m.c p R (by omega) hm3 hpb) ?_
 refine dX ?_
 refine bG (a7.kill _ 7) ?_
 refine cB ?_
 refine aK ?_
 refine bY ?_
 refine bO (b:=_) rfl (by decide) ?_
 refine cH ?_
 exact dE [] rfl rfl rfl cs (b7 cs rfl) kS (.pure pu)
theorem aIV {P:Program} {H:cM} {ρ:Operand→LV} {T:TypeId} {o0:Operand} {a b c:V3} [z:ZI P T (.agg [.agg [dG ⟨0,0,0⟩,dG ⟨0,0,0⟩,dG ⟨0,0,0⟩],dG ⟨0,0,0⟩])] [s:SI P T [(27,true),(9,true)]] (h0:ρ o0=.agg [dG a,dG b,dG c]) :
  OpP P H ρ (.build T #[(0,o0)]) (pS ⟨a,b,c,⟨0,0,0⟩⟩):=by
 have hp:LV.pure (.agg [dG a,dG b,dG c])=true:=by simp [LV.pure,aV,cW.pure]
 have:=OpP.bd (H:=H) (ρ:=ρ) (ps:=#[(0,o0)]) (z:=z) (s:=s) (by simp [lay,LV.csize,aL,cW.csize,cW.isAgg,fQ]) (by
  intro q hq
  simp only [List.mem_cons,List.not_mem_nil,or_false] at hq
  rcases hq with rfl
  exact⟨_,rfl,by rw [h0];simp [lay,cW.csize,LV.csize,aL,fQ],by rw [h0];exact LV.pure_ne_any hp,by rw [h0];exact LV.pure_ne_tup hp⟩)
 simp only [eN,List.map,List.foldl,List.set,h0] at this
 exact this
def ivM (m:M3):M3:=⟨vJ m.a m.b m.c,vO m.a m.b m.c,iv2 m.a m.b m.c,pW (-1) (m3t ⟨vJ m.a m.b m.c,vO m.a m.b m.c,iv2 m.a m.b m.c,⟨0,0,0⟩⟩ m.t)⟩
namespace Zq95
theorem cK {p q:Prop} (k:q) (e:p=q:=by simp only [e1,e2,e3,e4,p1,p2,p3,q1,q2,q3,l1,t0,t1,r1,r2,r3,r4,Nat.zero_add,Nat.reduceMul,Nat.reduceAdd,b1,b2,b3,b4,b5,b6,i1,i2,i3,i4,i5,i6,Nat.reduceBEq,qT,List.getD_cons_zero,List.getD_cons_succ,List.set_cons_zero,List.set_cons_succ,Nat.reduceEqDiff,reduceIte,if_true,if_false,a8,a9,aC cW,aC dR,aC aD,aT,a6,LV.kill,bH];exact rfl):p:=e.mpr k
end Zq95
open Zq95 in
theorem aKR (m:M3) (R:Nat) (hR:R≤1000) (hm:bdM R m) (hv:gI m.a (nG m.b m.c)≠0):aN Tryz.prog 108 [pS m] (.tup [pS (ivM m),iL 0]):=by
 have hm0:=hm
 obtain⟨hm1,hm2,hm3,hm4⟩:=hm
 have hx0:=qE hm2 hm3
 have hx1:=qE hm3 hm1
 have hx2:=qE hm1 hm2
 have hV:=aKC m R (by omega) hm0
 have hr1:rl 1=1:=rfl
 have hrv:=sT hm1 hx0
 have hrf:rl (jN m.a m.b m.c)≤20*R+30:=by
  have:=iZ 1 (gI m.a (nG m.b m.c))
  unfold jN
  omega
 have hQ:aN Tryz.prog 169 [ratL 1,ratL (gI m.a (nG m.b m.c))] (.tup [ratL (jN m.a m.b m.c),iL 0]):=by
  have:=mD 1 (gI m.a (nG m.b m.c)) (by omega)
  rwa [if_neg hv] at this
 have h1c:aN Tryz.prog 107 [iL 1] (ratL 1):=mJ 1 (by decide) (by decide)
 have h1m:aN Tryz.prog 107 [iL (-1)] (ratL (-1)):=by
  have:=mJ (-1) (by decide) (by decide)
  rwa [show (((-1:Int)):Rat)=-1 from by decide +kernel] at this
 have hsb:∀ q:V3,fH (4*R+5) q→fH (24*R+40) (pW (jN m.a m.b m.c) q):=fun q ⟨q1',q2',q3'⟩=>by
  have e1x:=bR (jN m.a m.b m.c) q.x
  have e2x:=bR (jN m.a m.b m.c) q.y
  have e3x:=bR (jN m.a m.b m.c) q.z
  exact⟨by show rl ((jN m.a m.b m.c)*q.x)≤_;omega,by show rl ((jN m.a m.b m.c)*q.y)≤_;omega,by show rl ((jN m.a m.b m.c)*q.z)≤_;omega⟩
 have hT:=aMb (pW (jN m.a m.b m.c) (nG m.b m.c)) (pW (jN m.a m.b m.c) (nG m.c m.a)) (pW (jN m.a m.b m.c) (nG m.a m.b)) (24*R+40) (by omega) (hsb _ hx0) (hsb _ hx1) (hsb _ hx2)
 have hb0':fH (24*R+40) (vJ m.a m.b m.c):=⟨(hsb _ hx0).1,(hsb _ hx1).1,(hsb _ hx2).1⟩
 have hb1':fH (24*R+40) (vO m.a m.b m.c):=⟨(hsb _ hx0).2.1,(hsb _ hx1).2.1,(hsb _ hx2).2.1⟩
 have hb2':fH (24*R+40) (iv2 m.a m.b m.c):=⟨(hsb _ hx0).2.2,(hsb _ hx1).2.2,(hsb _ hx2).2.2⟩
 have hbi:bdM (24*R+40) ⟨vJ m.a m.b m.c,vO m.a m.b m.c,iv2 m.a m.b m.c,⟨0,0,0⟩⟩:=⟨hb0',hb1',hb2',⟨by show rl 0≤_;have:rl 0=1:=rfl;omega,by show rl 0≤_;have:rl 0=1:=rfl;omega,by show rl 0≤_;have:rl 0=1:=rfl;omega⟩⟩
 have hTu:=aHs ⟨vJ m.a m.b m.c,vO m.a m.b m.c,iv2 m.a m.b m.c,⟨0,0,0⟩⟩ (24*R+40) (by omega) hbi m.t (hm4.le (by omega))
 have hbt:=aJs hbi hm4
 have hSc:=oM (-1) (m3t ⟨vJ m.a m.b m.c,vO m.a m.b m.c,iv2 m.a m.b m.c,⟨0,0,0⟩⟩ m.t) (3*(24*R+40+R)+4) (by omega) (by have:rl (-1)=1:=(by decide +kernel);omega) hbt
 refine dJ Tryz.func108 (ht:=(gU (qM.pure _) rfl)) ?_
 refine eI ?_
 refine dH 8 [6] (by decide +kernel) ?_
 refine cp cS (h1c) ?_
 refine aB rfl (.loadE rfl rfl rfl rfl (qM.csize m) (b7 (qM.csize m) rfl) T68) ?_
 refine cY rfl (.cons (.pure (qM.pure m)) .nil) hV ?_
 refine cp bI (hQ) ?_
 refine iR ?_
 refine bO (b:=_) rfl (rfl) ?_
 refine dI ?_
 refine aP 23 (by decide +kernel) ?_
 refine cU ?_
 refine aB rfl (.loadE rfl rfl rfl rfl (qM.csize m) (zF m) kS) ?_
 refine cU ?_
 refine aB rfl (.loadE rfl rfl rfl rfl (qM.csize m) (yM m) kS) ?_
 refine cp bI (qO m.b m.c R (by omega) hm2 hm3) ?_
 refine cU ?_
 refine aB rfl (.loadE rfl rfl rfl rfl (qM.csize m) (yM m) kS) ?_
 refine cU ?_
 refine aB rfl (.loadE rfl rfl rfl rfl (qM.csize m) (zJ m) kS) ?_
 refine cp bI (qO m.c m.a R (by omega) hm3 hm1) ?_
 refine cU ?_
 refine aB rfl (.loadE rfl rfl rfl rfl (qM.csize m) (zJ m) kS) ?_
 refine cU ?_
 refine aB rfl (.loadE rfl rfl rfl rfl (qM.csize m) (zF m) kS) ?_
 refine cp bI (qO m.a m.b R (by omega) hm1 hm2) ?_
 refine aB rfl (aL0 rfl rfl rfl) ?_
 refine cH ?_
 refine aK ?_
 refine bY ?_
 refine aY (b:=_) rfl (by decide) ?_
 refine jT ?_
 refine cp bI (oM (jN m.a m.b m.c) (nG m.b m.c) (20*R+30) (by omega) hrf (hx0.le (by omega))) ?_
 refine dX ?_
 refine bG (a7.kill _ 8) ?_
 refine cB ?_
 refine aK ?_
 refine bY ?_
 refine aY (b:=_) rfl (by decide) ?_
 refine jT ?_
 refine cp bI (oM (jN m.a m.b m.c) (nG m.c m.a) (20*R+30) (by omega) hrf (hx1.le (by omega))) ?_
 refine dX ?_
 refine bG (a7.kill _ 8) ?_
 refine cB ?_
 refine aK ?_
 refine bY ?_
 refine aY (b:=_) rfl (by decide) ?_
 refine jT ?_
 refine cp bI (oM (jN m.a m.b m.c) (nG m.a m.b) (20*R+30) (by omega) hrf (hx2.le (by omega))) ?_
 refine dX ?_
 refine bG (a7.kill _ 8) ?_
 refine cB ?_
 refine aK ?_
 refine bY ?_
 refine bO (b:=_) rfl (by decide) ?_
 refine eI ?_
 refine cY rfl (.cons (.pure (wN (pW (jN m.a m.b m.c) (nG m.b m.c)) (pW (jN m.a m.b m.c) (nG m.c m.a)) (pW (jN m.a m.b m.c) (nG m.a m.b)))) .nil) hT ?_
 refine aB rfl (aIV (a:=vJ m.a m.b m.c) (b:=vO m.a m.b m.c) (c:=iv2 m.a m.b m.c) rfl) ?_
 refine bD ?_
 refine bC rfl (.stE (e:=pS) (l:=[⟨⟨0,0,0⟩,⟨0,0,0⟩,⟨0,0,0⟩,⟨0,0,0⟩⟩]) (a:=⟨vJ m.a m.b m.c,vO m.a m.b m.c,iv2 m.a m.b m.c,⟨0,0,0⟩⟩) rfl rfl rfl (by simp)) ?_
 refine dI ?_
 refine aP 7 (by decide +kernel) ?_
 refine cp cS (h1m) ?_
 refine aB rfl (.loadE rfl rfl rfl rfl (qM.csize (⟨vJ m.a m.b m.c,vO m.a m.b m.c,iv2 m.a m.b m.c,⟨0,0,0⟩⟩)) (b7 (qM.csize (⟨vJ m.a m.b m.c,vO m.a m.b m.c,iv2 m.a m.b m.c,⟨0,0,0⟩⟩)) rfl) T68) ?_
 refine bD ?_
 refine aB rfl (.loadE rfl rfl rfl rfl (qM.csize m) (aH5 m) kS) ?_
 refine cY rfl (.cons (.pure (qM.pure _)) (.cons (.pure (cW.pure _)) .nil)) hTu ?_
 refine cp bI (hSc) ?_
 refine bD ?_
 refine bC rfl (.store (y:=pS ⟨vJ m.a m.b m.c,vO m.a m.b m.c,iv2 m.a m.b m.c,⟨0,0,0⟩⟩) (y':=pS (ivM m)) rfl rfl rfl rfl rfl (qM.csize _) (aFc ⟨vJ m.a m.b m.c,vO m.a m.b m.c,iv2 m.a m.b m.c,⟨0,0,0⟩⟩ _) (by show bT _ _ (LV.csize (dG _)) (LV.isAgg (dG _));rw [cW.csize,cW.isAgg];exact kS) ⟨LV.pure_ne_any (cW.pure _),LV.pure_ne_tup (cW.pure _)⟩) ?_
 refine cB ?_
 refine aB rfl (.loadE rfl rfl rfl rfl (qM.csize (ivM m)) (b7 (qM.csize (ivM m)) rfl) T68) ?_
 refine bC rfl (.stE (e:=pS) (l:=[⟨⟨0,0,0⟩,⟨0,0,0⟩,⟨0,0,0⟩,⟨0,0,0⟩⟩]) (a:=ivM m) rfl rfl rfl (by simp)) ?_
 refine cB ?_
 exact nL [] rfl rfl rfl (qM.csize _) (b7 (qM.csize _) rfl) T68 (.pure (qM.pure _)) rfl (.pure rfl)
theorem aOC {P:Program} {H:cM} {ρ:Operand→LV} {T E:TypeId} {o2:Operand} {a:Rat} [u:UN P T (.array 3 E)] [t:TI P E 3 true] [z:ZI P T (.agg [ratL 0,ratL 0,ratL 0])] (h0:ρ o2=ratL a):OpP P H ρ (.build T #[(2,o2)]) (dG ⟨0,0,a⟩):=by
 have:=OpP.bda (H:=H) (ρ:=ρ) (ps:=#[(2,o2)]) (u:=u) (t:=t) (z:=z) (by simp [lay,aD.csize,aD.isAgg]) (by
  intro q hq
  simp only [List.mem_cons,List.not_mem_nil,or_false] at hq
  subst hq
  exact⟨_,rfl,by rw [h0];simp [lay,aD.csize,aD.isAgg],by rw [h0];exact LV.pure_ne_any (aD.pure _),by rw [h0];exact LV.pure_ne_tup (aD.pure _)⟩)
 simp only [eN,List.map,List.foldl,List.set,h0] at this
 exact this
def sgK (a u p v:V3) (s t:Sp):Nat:=if jM u v=0 then 0 else if s.1<tA a u p v∧tA a u p v<s.2∧t.1<tO a u p v∧tO a u p v<t.2 then 3 else 2
theorem tE {a u:V3} (ha:fH 1 a) (hu:fH 3 u) {s:Rat} (hs:rl s≤1):fH 6 (dN a u s):=by
 obtain⟨a1,a2,a3⟩:=ha
 obtain⟨y1,y2,y3⟩:=hu
 have m1:=bR s u.x
 have m2:=bR s u.y
 have m3:=bR s u.z
 have n1:=f7 a.x (s*u.x)
 have n2:=f7 a.y (s*u.y)
 have n3:=f7 a.z (s*u.z)
 exact⟨by show rl (a.x+s*u.x)≤_;omega,by show rl (a.y+s*u.y)≤_;omega,by show rl (a.z+s*u.z)≤_;omega⟩
theorem sX {a u:V3} (ha:fH 1 a) (hu:fH 3 u) {s t:Rat} (hs:rl s≤1) (ht:rl t≤1):cvR (eR a u s t) 1 6:=⟨rfl,by decide,by decide,fun q hq=>by
 simp only [eR,List.mem_cons,List.not_mem_nil,or_false] at hq
 rcases hq with rfl | rfl
 ·exact⟨tE ha hu hs,by show rl 1≤6;decide,by show (0:Rat)<1;decide +kernel⟩
 ·exact⟨tE ha hu ht,by show rl 1≤6;decide,by show (0:Rat)<1;decide +kernel⟩⟩
theorem aG6 {a u:V3} (ha:fH 1 a) (hu:fH 3 u) {s t:Rat} (hs:rl s≤1) (ht:rl t≤1):cvD (eR a u s t) 1 6:=⟨sX ha hu hs ht,by decide,by decide,by decide⟩
theorem aGI {s:Sp} (h:s.1<s.2):s.1≤pH s∧pH s≤s.2:=by
 have e:(s.1+s.2)/2*2=s.1+s.2:=Rat.div_mul_cancel (by decide)
 unfold pH
 constructor<;>grind
namespace Zq118
theorem cK {p q:Prop} (k:q) (e:p=q:=by simp only [e1,e2,e3,e4,p1,p2,p3,q1,q2,q3,l1,t0,t1,r1,r2,r3,r4,Nat.zero_add,Nat.reduceMul,Nat.reduceAdd,b1,b2,b3,b4,b5,b6,i1,i2,i3,i4,i5,i6,Nat.reduceBEq,List.set_cons_zero,List.set_cons_succ,Nat.reduceEqDiff,reduceIte,if_true,if_false,a8,a9,aC cW,aC dR,aC aD,aT,a6,LV.kill,bH];exact rfl):p:=e.mpr k
end Zq118
open Zq118 in
theorem l5 (p:V3):aN Tryz.prog 109 [dG p] (.list 9 ([p].map dG)):=by
 refine dJ Tryz.func109 (ht:=(fun g=>LV.ren_pure g _ (aJ cW _ _))) ?_
 refine eX ?_
 exact jV [4] rfl rfl (cC (l:=[p]) cW rfl rfl rfl)
theorem aK3 (a u p v:V3) (s t:Sp) (hs:s.1<s.2) (ht:t.1<t.2):d2S (gF (s.2-s.1) (eR a u s.1 s.2)).x (w5 (gF (t.2-t.1) (eR p v t.1 t.2)).x) (gF (s.2-s.1) (eR a u s.1 s.2)).y (w5 (gF (t.2-t.1) (eR p v t.1 t.2)).y)=(-jM u v,-jM u v):=by
 have hx:∀ k,spW (s.2-s.1) (eR a u s.1 s.2) k=(u.at k,u.at k):=sA a u s.1 s.2 hs
 have hy:∀ k,spW (t.2-t.1) (eR p v t.1 t.2) k=(v.at k,v.at k):=sA p v t.1 t.2 ht
 have hng:∀ q:Rat,w5 (q,q)=(-q,-q):=fun _=>rfl
 unfold gF
 simp only [hx,hy,hng]
 unfold d2S
 rw [aBt,aBt]
 show (_,_)=_
 have e:u.at 0*-v.at 1 - -v.at 0*u.at 1=-jM u v:=by
  show u.x*-v.y - -v.x*u.y=-(u.x*v.y-u.y*v.x);grind
 rw [←e]
def kiM (u v:V3):M3:=⟨jP u v,jQ u v,jO,⟨0,0,0⟩⟩
namespace Zq117
theorem cK {p q:Prop} (k:q) (e:p=q:=by simp only [e1,e2,e3,e4,p1,p2,p3,q1,q2,q3,l1,t0,t1,r1,r2,r3,r4,Nat.zero_add,Nat.reduceMul,Nat.reduceAdd,b1,b2,b3,b4,b5,b6,i1,i2,i3,i4,i5,i6,Nat.reduceBEq,qT,List.getD_cons_zero,List.getD_cons_succ,List.set_cons_zero,List.set_cons_succ,Nat.reduceEqDiff,reduceIte,if_true,if_false,a8,a9,aC cW,aC dR,aC aD,aT,a6,LV.kill,bH];exact rfl):p:=e.mpr k
end Zq117
open Zq117 in
theorem aJy (a u p v:V3) (hba:fH 1 a) (hbu:fH 3 u) (hbp:fH 1 p) (hbv:fH 3 v) (s t:Sp) (hs:w7 24 s) (ht:w7 24 t):aN Tryz.prog 46 [.agg [aG 1,.list 3 ((cN 1 s.1 s.2).map ratL),.list 12 ((eR a u s.1 s.2).map eB)],.agg [aG 1,.list 3 ((cN 1 t.1 t.2).map ratL),.list 12 ((eR p v t.1 t.2).map eB)]] (aG (sgK a u p v s t)):=by
 have hc1:=hs.rl (by decide)
 have hl1:=hs.2.2.2.1
 have hd1:=aG6 hba hbu hc1.1 hc1.2
 have hS1:=aAX 1 s.1 s.2 (eR a u s.1 s.2) (by omega) (by omega) hl1 (by decide) 6 hd1
 have hD1:=sD 1 s.1 s.2 (eR a u s.1 s.2) (by omega) (by omega) hl1 (by decide)
 have hM1:=aB8 s (by omega)
 have hmd1:=aGI hl1
 have hmr1:rl (pH s)≤4:=by
  have z1:=f7 s.1 s.2
  have z2:=iZ (s.1+s.2) 2
  have:rl 2=1:=by decide +kernel
  unfold pH
  omega
 have hT1:=aGE 1 s.1 s.2 (eR a u s.1 s.2) (by omega) (by omega) hl1 (by decide) 6 hd1 (pH s) ((pH s-s.1)/(s.2-s.1)) (by omega) hmd1.1 hmd1.2 rfl (by
  have z1:=d9 (pH s) s.1
  have z2:=d9 s.2 s.1
  have z3:=iZ (pH s-s.1) (s.2-s.1)
  omega)
 rw [aGB a u s.1 s.2 _ hl1] at hT1
 have hE1:=aC2 1 (cN 1 s.1 s.2) (eR a u s.1 s.2) 6 (by decide) hd1.c
 have hcp1:LV.pure (.agg [aG 1,.list 3 ((cN 1 s.1 s.2).map ratL),.list 12 ((eR a u s.1 s.2).map eB)])=true:=by simp [LV.pure,aV,aF aD,aF dR]
 have hP1:aN Tryz.prog 110 [.list 12 ((eR a u s.1 s.2).map eB)] (.list 9 ([dN a u s.1,dN a u s.2].map dG)):=aGb (eR a u s.1 s.2) (by show 0<2;decide) (by show 2≤1000;decide)
 have hsw1:bdB 10000 (gF (s.2-s.1) (eR a u s.1 s.2)):=by
  have q:∀ j,iQ 10000 (spW (s.2-s.1) (eR a u s.1 s.2) j):=fun j=>by
   rw [sA a u s.1 s.2 hl1]
   have:=p7 hbu j
   exact⟨Nat.le_trans this (by decide),Nat.le_trans this (by decide)⟩
  exact⟨q 0,q 1,q 2⟩
 have hc2:=ht.rl (by decide)
 have hl2:=ht.2.2.2.1
 have hd2:=aG6 hbp hbv hc2.1 hc2.2
 have hS2:=aAX 1 t.1 t.2 (eR p v t.1 t.2) (by omega) (by omega) hl2 (by decide) 6 hd2
 have hD2:=sD 1 t.1 t.2 (eR p v t.1 t.2) (by omega) (by omega) hl2 (by decide)
 have hM2:=aB8 t (by omega)
 have hmd2:=aGI hl2
 have hmr2:rl (pH t)≤4:=by
  have z1:=f7 t.1 t.2
  have z2:=iZ (t.1+t.2) 2
  have:rl 2=1:=by decide +kernel
  unfold pH
  omega
 have hT2:=aGE 1 t.1 t.2 (eR p v t.1 t.2) (by omega) (by omega) hl2 (by decide) 6 hd2 (pH t) ((pH t-t.1)/(t.2-t.1)) (by omega) hmd2.1 hmd2.2 rfl (by
  have z1:=d9 (pH t) t.1
  have z2:=d9 t.2 t.1
  have z3:=iZ (pH t-t.1) (t.2-t.1)
  omega)
 rw [aGB p v t.1 t.2 _ hl2] at hT2
 have hE2:=aC2 1 (cN 1 t.1 t.2) (eR p v t.1 t.2) 6 (by decide) hd2.c
 have hcp2:LV.pure (.agg [aG 1,.list 3 ((cN 1 t.1 t.2).map ratL),.list 12 ((eR p v t.1 t.2).map eB)])=true:=by simp [LV.pure,aV,aF aD,aF dR]
 have hP2:aN Tryz.prog 110 [.list 12 ((eR p v t.1 t.2).map eB)] (.list 9 ([dN p v t.1,dN p v t.2].map dG)):=aGb (eR p v t.1 t.2) (by show 0<2;decide) (by show 2≤1000;decide)
 have hsw2:bdB 10000 (gF (t.2-t.1) (eR p v t.1 t.2)):=by
  have q:∀ j,iQ 10000 (spW (t.2-t.1) (eR p v t.1 t.2) j):=fun j=>by
   rw [sA p v t.1 t.2 hl2]
   have:=p7 hbv j
   exact⟨Nat.le_trans this (by decide),Nat.le_trans this (by decide)⟩
  exact⟨q 0,q 1,q 2⟩
 have hE1b:aN Tryz.prog 111 [.agg [aG 1,.list 3 ((cN 1 s.1 s.2).map ratL),.list 12 ((eR a u s.1 s.2).map eB)]] (.tup [dG (dN a u s.1),dG (dN a u s.2)]):=hE1
 have hE2b:aN Tryz.prog 111 [.agg [aG 1,.list 3 ((cN 1 t.1 t.2).map ratL),.list 12 ((eR p v t.1 t.2).map eB)]] (.tup [dG (dN p v t.1),dG (dN p v t.2)]):=hE2
 have hk:=aLo a u p v s t hl1 hl2
 have hd2:=aK3 a u p v s t hl1 hl2
 have hpD:LV.pure (.agg [.agg [spL (gF (s.2-s.1) (eR a u s.1 s.2)).x,spL (w5 (gF (t.2-t.1) (eR p v t.1 t.2)).x)],.agg [spL (gF (s.2-s.1) (eR a u s.1 s.2)).y,spL (w5 (gF (t.2-t.1) (eR p v t.1 t.2)).y)]])=true:=by simp only [LV.pure,aV,d8.pure,Bool.and_self]
 have hpl:∀ l1 l2:List V3,LV.pure (.agg [.list 9 (l1.map dG),.list 9 (l2.map dG)])=true:=fun l1 l2=>by simp only [LV.pure,aV,aF cW,Bool.and_self]
 have hng1:=aFB hsw2.1
 have hng2:=aFB hsw2.2.1
 have hdd:iQ 50000 (d2S (gF (s.2-s.1) (eR a u s.1 s.2)).x (w5 (gF (t.2-t.1) (eR p v t.1 t.2)).x) (gF (s.2-s.1) (eR a u s.1 s.2)).y (w5 (gF (t.2-t.1) (eR p v t.1 t.2)).y)):=(aKg hsw1.1 hng1 hsw1.2.1 hng2).le (by decide)
 have h1c:aN Tryz.prog 107 [iL 1] (ratL 1):=mJ 1 (by decide) (by decide)
 have h1m:aN Tryz.prog 107 [iL (-1)] (ratL (-1)):=by
  have:=mJ (-1) (by decide) (by decide)
  rwa [show (((-1:Int)):Rat)=-1 from by decide +kernel] at this
 have hv4:fH 4 (pW (-1) v):=by
  have e0:rl (-1)=1:=by decide +kernel
  have e5:=bR (-1) v.x
  have e6:=bR (-1) v.y
  have e7:=bR (-1) v.z
  exact⟨by show rl (-1*v.x)≤_;have:=hbv.1;omega,by show rl (-1*v.y)≤_;have:=hbv.2.1;omega,by show rl (-1*v.z)≤_;have:=hbv.2.2;omega⟩
 have hr0:rl 0≤4:=by decide
 have hr1:rl 1≤4:=by decide
 have hkb:bdM 4 (kiM u v):=⟨⟨Nat.le_trans hbu.1 (by decide),hv4.1,hr0⟩,⟨Nat.le_trans hbu.2.1 (by decide),hv4.2.1,hr0⟩,⟨hr0,hr0,hr1⟩,⟨hr0,hr0,hr0⟩⟩
 have hSc:=oM (-1) v 4 (by decide) (by decide) (hbv.le (by decide))
 have hqPC:∀ q∈[dN a u s.1,dN a u s.2],fH 1000 q:=fun q hq=>by
  simp only [List.mem_cons,List.not_mem_nil,or_false] at hq
  rcases hq with rfl | rfl
  ·exact(tE hba hbu hc1.1).le (by decide)
  ·exact(tE hba hbu hc1.2).le (by decide)
 have hqPD:∀ q∈[dN p v t.1,dN p v t.2],fH 1000 q:=fun q hq=>by
  simp only [List.mem_cons,List.not_mem_nil,or_false] at hq
  rcases hq with rfl | rfl
  ·exact(tE hbp hbv hc2.1).le (by decide)
  ·exact(tE hbp hbv hc2.2).le (by decide)
 have hqA1:∀ q∈[dN a u s.1],fH 1000 q:=fun q hq=>hqPC q (by simp only [List.mem_singleton] at hq;simp [hq])
 have hqA2:∀ q∈[dN a u s.2],fH 1000 q:=fun q hq=>hqPC q (by simp only [List.mem_singleton] at hq;simp [hq])
 have hqB1:∀ q∈[dN p v t.1],fH 1000 q:=fun q hq=>hqPD q (by simp only [List.mem_singleton] at hq;simp [hq])
 have hqB2:∀ q∈[dN p v t.2],fH 1000 q:=fun q hq=>hqPD q (by simp only [List.mem_singleton] at hq;simp [hq])
 have hxb1:=qE hkb.2.1 hkb.2.2.1
 have hxb2:=qE hkb.2.2.1 hkb.1
 have hxb3:=qE hkb.1 hkb.2.1
 have hrf:rl (jN (jP u v) (jQ u v) jO)≤110:=by
  have e5:=sT hkb.1 hxb1
  have e6:=iZ 1 (gI (jP u v) (nG (jQ u v) jO))
  have e7:rl 1=1:=rfl
  unfold jN
  have e8:rl (gI (jP u v) (nG (jQ u v) jO))≤100:=Nat.le_trans e5 (by decide)
  omega
 have hsb:∀ q:V3,fH 21 q→fH 1000 (pW (jN (jP u v) (jQ u v) jO) q):=fun q ⟨z1,z2,z3⟩=>by
  have e1x:=bR (jN (jP u v) (jQ u v) jO) q.x
  have e2x:=bR (jN (jP u v) (jQ u v) jO) q.y
  have e3x:=bR (jN (jP u v) (jQ u v) jO) q.z
  exact⟨by show rl (_*q.x)≤_;omega,by show rl (_*q.y)≤_;omega,by show rl (_*q.z)≤_;omega⟩
 have hbiv0:fH 1000 (vJ (jP u v) (jQ u v) jO):=⟨(hsb _ hxb1).1,(hsb _ hxb2).1,(hsb _ hxb3).1⟩
 have hbiv1:fH 1000 (vO (jP u v) (jQ u v) jO):=⟨(hsb _ hxb1).2.1,(hsb _ hxb2).2.1,(hsb _ hxb3).2.1⟩
 refine dJ Tryz.func46 ?_
 refine eI ?_
 refine aP 6 (by decide +kernel) ?_
 refine bD ?_
 refine cp cS (hS1) ?_
 refine bD ?_
 refine cp cS (hS2) ?_
 refine dP ?_
 refine aP 15 (by decide +kernel) ?_
 refine cB ?_
 refine cp cS (aFp (gF (t.2-t.1) (eR p v t.1 t.2)).x 10000 (by decide) hsw2.1) ?_
 refine aB rfl (aII (v0:=spL (gF (s.2-s.1) (eR a u s.1 s.2)).x) (v1:=spL (w5 (gF (t.2-t.1) (eR p v t.1 t.2)).x)) Tryz.underlying169 mH aJH lz rfl rfl lz lz (d8.pure _) (d8.pure _)) ?_
 refine cB ?_
 refine cp cS (aFp (gF (t.2-t.1) (eR p v t.1 t.2)).y 10000 (by decide) hsw2.2.1) ?_
 refine aB rfl (aII (v0:=spL (gF (s.2-s.1) (eR a u s.1 s.2)).y) (v1:=spL (w5 (gF (t.2-t.1) (eR p v t.1 t.2)).y)) Tryz.underlying169 mH aJH lz rfl rfl lz lz (d8.pure _) (d8.pure _)) ?_
 refine aB rfl (aII (v0:=.agg [spL (gF (s.2-s.1) (eR a u s.1 s.2)).x,spL (w5 (gF (t.2-t.1) (eR p v t.1 t.2)).x)]) (v1:=.agg [spL (gF (s.2-s.1) (eR a u s.1 s.2)).y,spL (w5 (gF (t.2-t.1) (eR p v t.1 t.2)).y)]) Tryz.underlying170 aL7 aLE lz rfl rfl lz lz pu pu) ?_
 refine cY rfl (.cons (.pure hpD) .nil) (aIu (gF (s.2-s.1) (eR a u s.1 s.2)).x (w5 (gF (t.2-t.1) (eR p v t.1 t.2)).x) (gF (s.2-s.1) (eR a u s.1 s.2)).y (w5 (gF (t.2-t.1) (eR p v t.1 t.2)).y) 10000 (by decide) hsw1.1 hng1 hsw1.2.1 hng2) ?_
 refine eP ?_
 refine cp bI (zX (d2S (gF (s.2-s.1) (eR a u s.1 s.2)).x (w5 (gF (t.2-t.1) (eR p v t.1 t.2)).x) (gF (s.2-s.1) (eR a u s.1 s.2)).y (w5 (gF (t.2-t.1) (eR p v t.1 t.2)).y)) 0 (by have:=hdd.1;have:rl 0=1:=rfl;omega) (by have:=hdd.2;have:rl 0=1:=rfl;omega)) ?_
 refine cU ?_
 refine aQ rfl (fun h41r h41=>?_) (fun h41r h41=>?_)
 ·have hkz:sgK a u p v s t=0:=by
   refine Eq.trans hk.symm ?_
   unfold kdC
   exact if_pos h41
  refine dP ?_
  first | exact b8 (x:=aG (sgK a u p v s t)) (by rw [hkz];rfl) (.pure rfl) | exact b8 (x:=aG (sgK a u p v s t)) (by rw [hk2.trans (if_neg (by rw [show aAD u v [dN a u s.1,dN a u s.2] [dN p v t.1,dN p v t.2]=false from h126];simp))];rfl) (.pure rfl)
 ·have hcr:jM u v≠0:=fun e=>by
   rw [hd2,e] at h41
   exact absurd (show mV (-0,-0) 0=true by decide +kernel) (by simpa using h41)
  have hvol:gI (jP u v) (nG (jQ u v) jO)≠0:=by rw [aBL];exact fun e=>hcr (by grind)
  have hk2:sgK a u p v s t=if aAD u v [dN a u s.1,dN a u s.2] [dN p v t.1,dN p v t.2] && aE2 u v [dN a u s.1,dN a u s.2] [dN p v t.1,dN p v t.2] then 3 else 2:=by
   refine Eq.trans hk.symm ?_
   unfold kdC
   rw [if_neg (by simpa using h41),if_neg hvol]
  have hInv:aN Tryz.prog 108 [pS (kiM u v)] (.tup [pS (ivM (kiM u v)),iL 0]):=aKR (kiM u v) 4 (by decide) hkb hvol
  refine dI ?_
  refine dH 9 [7] (by decide +kernel) ?_
  refine cU ?_
  refine cp cS (hD1) ?_
  refine cp cS (hM1) ?_
  refine cp bI (hT1) ?_
  refine eP ?_
  refine dH 9 [7] (by decide +kernel) ?_
  refine cU ?_
  refine cp cS (hD2) ?_
  refine cp cS (hM2) ?_
  refine cp bI (hT2) ?_
  refine eP ?_
  refine aP 3 (by decide +kernel) ?_
  refine cp cS (h1m) ?_
  refine bD ?_
  refine cp bI (hSc) ?_
  refine cB ?_
  refine dH 19 [17] (by decide +kernel) ?_
  refine cB ?_
  refine w8 (aHj rfl rfl) ?_
  refine cB ?_
  refine w8 (aHj rfl rfl) ?_
  refine cp cS (h1c) ?_
  refine w8 (aOC rfl) ?_
  refine aB rfl (aL0 rfl rfl rfl) ?_
  refine aB rfl (aIV (a:=jP u v) (b:=jQ u v) (c:=jO) rfl) ?_
  refine cY rfl (.cons (.pure (qM.pure (kiM u v))) .nil) hInv ?_
  refine cB ?_
  refine bC rfl (.stE (e:=pS) (l:=[⟨⟨0,0,0⟩,⟨0,0,0⟩,⟨0,0,0⟩,⟨0,0,0⟩⟩]) (a:=ivM (kiM u v)) rfl rfl rfl (by simp)) ?_
  refine cG ?_
  refine bO (b:=_) rfl (rfl) ?_
  refine eI ?_
  refine aP 8 (by decide +kernel) ?_
  refine cU ?_
  refine cp cS (hP1) ?_
  refine cU ?_
  refine cp cS (hP2) ?_
  refine dP ?_
  refine cp cS (hE1b) ?_
  refine cG ?_
  refine aP 15 (by decide +kernel) ?_
  refine cU ?_
  refine aB rfl (.loadE rfl rfl rfl rfl (qM.csize _) (zJ _) kS) ?_
  refine cU ?_
  refine gE [] rfl rfl (.clo (f:=109) (cap:=[]) (args:=[dG (dN a u s.1)]) rfl (.cons (.pure (cW.pure _)) .nil) ⟨rfl,by simp⟩ (l5 (dN a u s.1)).1 (by decide) (fun _ h=>by cases h)) ((l5 (dN a u s.1)).2 _) ?_
  refine cB ?_
  refine gE [] rfl rfl (.clo (f:=109) (cap:=[]) (args:=[dG (dN a u s.2)]) rfl (.cons (.pure (cW.pure _)) .nil) ⟨rfl,by simp⟩ (l5 (dN a u s.2)).1 (by decide) (fun _ h=>by cases h)) ((l5 (dN a u s.2)).2 _) ?_
  refine cU ?_
  refine cY rfl (.cons (.pure (cW.pure _)) (.cons (.pure (hpl [dN a u s.1] [dN p v t.1,dN p v t.2])) (.cons (.pure (hpl [dN a u s.2] [dN p v t.1,dN p v t.2])) .nil))) (aG4 (vJ (jP u v) (jQ u v) jO) 1000 (by decide) hbiv0 [dN a u s.1] [dN p v t.1,dN p v t.2] [dN a u s.2] [dN p v t.1,dN p v t.2] (by simp) (by simp) hqA1 (by simp) (by simp) hqPD (by simp) (by simp) hqA2 (by simp) (by simp) hqPD) ?_
  refine bY ?_
  refine cp cS (hE2b) ?_
  refine eI ?_
  refine aP 15 (by decide +kernel) ?_
  refine cU ?_
  refine aB rfl (.loadE rfl rfl rfl rfl (qM.csize _) (zF _) kS) ?_
  refine dI ?_
  refine gE [] rfl rfl (.clo (f:=109) (cap:=[]) (args:=[dG (dN p v t.1)]) rfl (.cons (.pure (cW.pure _)) .nil) ⟨rfl,by simp⟩ (l5 (dN p v t.1)).1 (by decide) (fun _ h=>by cases h)) ((l5 (dN p v t.1)).2 _) ?_
  refine cB ?_
  refine gE [] rfl rfl (.clo (f:=109) (cap:=[]) (args:=[dG (dN p v t.2)]) rfl (.cons (.pure (cW.pure _)) .nil) ⟨rfl,by simp⟩ (l5 (dN p v t.2)).1 (by decide) (fun _ h=>by cases h)) ((l5 (dN p v t.2)).2 _) ?_
  refine bD ?_
  refine cY rfl (.cons (.pure (cW.pure _)) (.cons (.pure (hpl [dN a u s.1,dN a u s.2] [dN p v t.1])) (.cons (.pure (hpl [dN a u s.1,dN a u s.2] [dN p v t.2])) .nil))) (aG4 (vO (jP u v) (jQ u v) jO) 1000 (by decide) hbiv1 [dN a u s.1,dN a u s.2] [dN p v t.1] [dN a u s.1,dN a u s.2] [dN p v t.2] (by simp) (by simp) hqPC (by simp) (by simp) hqB1 (by simp) (by simp) hqPC (by simp) (by simp) hqB2) ?_
  refine eI ?_
  refine eD 126 rfl (fun h126r h126=>?_) (fun h126r h126=>?_)
  ·refine cB ?_
   refine aQ rfl (fun h128r h128=>?_) (fun h128r h128=>?_)
   ·have hkz:sgK a u p v s t=3:=hk2.trans (if_pos (by rw [show aAD u v [dN a u s.1,dN a u s.2] [dN p v t.1,dN p v t.2]=true from h126,show aE2 u v [dN a u s.1,dN a u s.2] [dN p v t.1,dN p v t.2]=true from h128];rfl))
    refine dP ?_
    first | exact b8 (x:=aG (sgK a u p v s t)) (by rw [hkz];rfl) (.pure rfl) | exact b8 (x:=aG (sgK a u p v s t)) (by rw [hk2.trans (if_neg (by rw [show aAD u v [dN a u s.1,dN a u s.2] [dN p v t.1,dN p v t.2]=false from h126];simp))];rfl) (.pure rfl)
   ·have hkz:sgK a u p v s t=2:=hk2.trans (if_neg (by rw [show aE2 u v [dN a u s.1,dN a u s.2] [dN p v t.1,dN p v t.2]=false from h128];simp))
    refine eI ?_
    first | exact b8 (x:=aG (sgK a u p v s t)) (by rw [hkz];rfl) (.pure rfl) | exact b8 (x:=aG (sgK a u p v s t)) (by rw [hk2.trans (if_neg (by rw [show aAD u v [dN a u s.1,dN a u s.2] [dN p v t.1,dN p v t.2]=false from h126];simp))];rfl) (.pure rfl)
  ·refine fI ?_
   first | exact b8 (x:=aG (sgK a u p v s t)) (by rw [hkz];rfl) (.pure rfl) | exact b8 (x:=aG (sgK a u p v s t)) (by rw [hk2.trans (if_neg (by rw [show aAD u v [dN a u s.1,dN a u s.2] [dN p v t.1,dN p v t.2]=false from h126];simp))];rfl) (.pure rfl)
end Go.Proofs.YtckppbhafancnaaGreat
end
