/- Texts TBE, TBF of this proof, joined. -/
import Derived.Test.YtbgmjcnjbhhljaaGreatQX6
set_option linter.unusedVariables false
set_option linter.unusedSimpArgs false
open And renaming intro->bG
open Go.Proofs.Tryz renaming prog->ae,underlying37->xW,underlying42->wR
open List renaming append_nil->eX,getD_cons_succ->iG,getD_cons_zero->ij,length_cons->dO,length_map->bF,length_nil->ff,map->fl,mem_cons->fJ,mem_map->fB,nil_append->eF,not_mem_nil->jN,set_cons_succ->cd,set_cons_zero->cw,take_nil->gE,take_of_length_le->cW
open Nat renaming reduceAdd->aW,reduceBEq->aS,reduceEqDiff->cy,reduceMul->aZ,zero_le->bJ
section
set_option linter.unusedVariables false
set_option linter.unusedSimpArgs false
set_option maxHeartbeats 8000000
set_option maxRecDepth 100000
attribute [local irreducible] Go.Lg.opsL Go.Lg.bM Go.Lg.lq Go.Lg.nJ
namespace Go.Proofs.YtbgmjcnjbhhljaaGreat
open Go.Lg
open ahj in
theorem art(m:M3)(R:Nat)(hR:R<=100000000)(hm:wZ R m)(p:V3)(ll:bE R p):ar ae 16 [fR m,aB p] (aB (m3p m p)):=by
 obtain⟨pF,fh,xl,nC⟩:=hm;have dE:wZ R m:=⟨pF,fh,xl,nC⟩;have ht:=apt dE ll;refine aE Tryz.func16 (ht:=(fun r=>LV.dF r _ (a7.pure _))) ?_;refine bx ?_;refine ai rfl (.eP rfl rfl rfl rfl (gq.aj m) (fq (gq.aj m) rfl) T36) ?_;refine aT ?_;refine cF rfl (.cons (.pure (gq.pure m)) (.cons (.pure (a7.pure p)) .nil)) (axJ m R aa dE p ll) ?_;refine aT ?_;refine ai rfl (.eP rfl rfl rfl rfl (gq.aj m) (atK m) kt) ?_;refine cF rfl (.cons (.pure (a7.pure _)) (.cons (.pure (a7.pure _)) .nil)) (apj (sn m p) m.t (6*R+4) aa (ht.le aa) (nC.le aa)) ?_;refine ay ?_;exact yp
theorem auD{P:Program}{H:bn}{ρ:Operand->LV}{T:TypeId}{o0:Operand}{n:V3}[z:ZI P T (.agg [.agg [ab 0,ab 0,ab 0],ab 0])][s:SI P T [(9,true),(3,true)]](h0:ρ o0=aB n):
  aq P H ρ (.build T #[(0,o0)]) (lu n 0):=by
 have:=aq.bd (H:=H) (ρ:=ρ) (ps:=#[(0,o0)]) (z:=z) (s:=s) (by simp[lay,LV.aj,bI,al.aj,al.isAgg,tb]) (by
  intro q hq;simp only[fJ,jN,or_false]at hq;rcases hq with rfl;exact⟨_,rfl,by rw[h0];simp[lay,a7.aj,a7.isAgg,LV.aj,bI,al.aj,tb],by rw[h0];exact LV.eg (a7.pure _),by rw[h0];exact LV.dV (a7.pure _)⟩)
 simp only[jf,fl,List.foldl,List.set,h0]at this;exact this
theorem aib:rM jO 2 1:=⟨rfl,by decide,by decide,fun q hq=>by
 simp only[jO,fJ,jN,or_false]at hq;rcases hq with rfl|rfl|rfl<;>exact⟨⟨by decide +kernel,by decide +kernel,by decide +kernel⟩,by decide +kernel,by decide +kernel⟩⟩
theorem q4x{a b:Q4}(h1:a.x=b.x)(h2:a.y=b.y)(h3:a.z=b.z)(h4:a.w=b.w):a=b:=by cases a;cases b;simp_all
theorem pox{a b:dG}(h1:a.p.x=b.p.x)(h2:a.p.y=b.p.y)(h3:a.p.z=b.p.z)(h4:a.w=b.w):a=b:=by
 obtain⟨⟨_,_,_⟩,_⟩:=a;obtain⟨⟨_,_,_⟩,_⟩:=b;simp_all
def wk:V3:=⟨3/5,4/5,0⟩
def uI:V3:=⟨4,-3,0⟩
namespace aoA
theorem aD{p q:Prop}(k:q)(e:p=q:=by simp only[bc,aZ,aW,aS,wi,cT gp,ij,iG,cw,cd,cy,reduceIte,if_true,if_false,cS,LV.kill,a9];exact rfl):p:=e.mpr k
end aoA
open aoA in
theorem aAY:ar ae 44 [.agg [ak 2,.list 3 ((aH 2 0 1).map ab),.list 12 (jO.map dj)],ab (1/2)] (.aQ [aB wk,iL 0]):=by
 have gh:LV.pure (.agg [ak 2,.list 3 ((aH 2 0 1).map ab),.list 12 (jO.map dj)])=true:=pc;have hsp:LV.pure (.agg [ak 2,.list 3 ((aH 2 0 1).map ab),.list 12 ((jO.map fP).map cD)])=true:=aat;have hSo:=ap5 2 0 1 jO 1 aib an an an an an;have hOf:=are 2 0 1 jO 1 aib an an an an an;have hMx:(pq (fP ⟨⟨1,0,0⟩,1⟩) (fP ⟨⟨1,1,0⟩,1⟩) (fP ⟨⟨0,1,0⟩,2⟩) 3)=(⟨3/4,1,0,5/4⟩:Q4):=q4x bj bj bj bj;have hEv:ar ae 124 [.agg [ak 2,.list 3 ((aH 2 0 1).map ab),.list 12 ((jO.map fP).map cD)],ab (1/2)] (.aQ [cD (⟨3/4,1,0,5/4⟩:Q4),iL 0]):=hMx▸auo (fP ⟨⟨1,0,0⟩,1⟩) (fP ⟨⟨1,1,0⟩,1⟩) (fP ⟨⟨0,1,0⟩,2⟩) 10 an ⟨by decide +kernel,by decide +kernel,by decide +kernel,by decide +kernel⟩ ⟨by decide +kernel,by decide +kernel,by decide +kernel,by decide +kernel⟩ ⟨by decide +kernel,by decide +kernel,by decide +kernel,by decide +kernel⟩;have hFP:ar ae 125 [cD (⟨3/4,1,0,5/4⟩:Q4)] (dj ⟨wk,5/4⟩):=by
  have:=amf (3/4) 1 0 (5/4) 10 an bj bj bj bj bj;rwa[show (⟨⟨3/4/(5/4),1/(5/4),0/(5/4)⟩,5/4⟩:dG)=⟨wk,5/4⟩ from pox bj bj bj rfl]at this
 refine aE Tryz.func44 (ht:=(lf (a7.pure _) rfl)) ?_;refine bp ?_;refine cF rfl (.cons (.pure gh) .nil) hSo ?_;refine bw ?_;refine ny ?_;refine bw ?_;refine fk (fun L=>∃  (L1:St),(True)/\L=(mS L1 [(4,⟨(LV.agg [ab 0,ab 0,ab 0]).aj,[.agg [ab 0,ab 0,ab 0]],true⟩),(6,⟨(LV.agg [ab 0,ab 0,ab 0,ab 0]).aj,[cD (⟨3/4,1,0,5/4⟩:Q4)],true⟩)] [(7,iL 0),(6,.ax 6 (LV.agg [ab 0,ab 0,ab 0,ab 0]).aj 0 0),(4,.ax 4 (LV.agg [ab 0,ab 0,ab 0]).aj 0 0)])) ?_ ?_
 ·refine alu ((av.bg (t:=2) (b:=2) rfl rfl cs rfl gh).trans (av.bg (t:=3) (b:=3) rfl rfl (by simp only[jz];exact al.aj _) (by simp only[jz];exact al.isAgg _) (by simp only[jz];exact al.pure _))) ?_;refine aD ?_;refine acA 0 rfl rfl bj (.pure (.jQ rfl gh rfl rfl)) (fun b=>LV.kM b _ gh) (bG (fun b=>LV.kM b _ (show LV.pure (.bg _)=true from gh)) trivial) ?_;refine acA 2 rfl rfl bj (.pure (.jQ (c:=ab (1/2)) rfl (al.pure _) (al.aj _) (al.isAgg _))) (fun b=>jz _ b) (bG (fun b=>LV.kM b _ (show LV.pure (.bg _)=true from al.pure _)) trivial) ?_
  repeat' first
   |(refine adM bj ?_;refine aT ?_;exact⟨_,trivial,ca⟩)
   |refine mZ 1 7 _ _ bj rfl rfl ?_ ?_
   |refine mZ 3 7 _ _ bj rfl rfl ?_ ?_
   |refine mZ 4 7 _ _ bj rfl rfl ?_ ?_
   |refine aek 5 6 7 _ _ _ bj rfl rfl rfl ?_ ?_ ?_
   |refine mZ 6 7 _ _ bj rfl rfl ?_ ?_
   |refine jk 7 _ bj rfl ?_
   |refine jk 8 _ bj rfl ?_
   |refine jk 9 _ bj rfl ?_
   |refine mZ 6 8 _ _ bj rfl rfl ?_ ?_
   |refine jk 6 _ bj rfl ?_
   |refine mZ 5 7 _ _ bj rfl rfl ?_ ?_
   |refine jk 5 _ bj rfl ?_
   |refine mZ 5 6 _ _ bj rfl rfl ?_ ?_
   |refine jk 4 _ bj rfl ?_
   |refine jk 3 _ bj rfl ?_
   |refine jk 1 _ bj rfl ?_
   |(refine cF rfl (.cons (.pure gh) .nil) hOf ?_;refine kv ?_)
   |(refine cF rfl (.cons (.pure hsp) (.cons (.pure (al.pure _)) .nil)) hEv ?_;refine kv ?_)
   |(refine aT ?_;refine kv ?_)
   |fail
 rintro _ ⟨LR3,-,rfl⟩;refine bu ?_;refine ny ?_;refine ay ?_;refine ai rfl (.eP rfl rfl rfl rfl (by rw[gp.aj];simp[LV.aj,bI,al.aj]) (fq (gp.aj _) (gp.isAgg _)) sA) ?_;refine cF rfl (.cons (.pure (gp.pure _)) .nil) hFP ?_;refine aA ?_;exact ado [] rfl rfl rfl cs (fq cs rfl) kt (.pure (a7.pure wk)) rfl (.pure rfl)
namespace ale
theorem aD{p q:Prop}(k:q)(e:p=q:=by simp only[bc,aZ,aW,aS,pG,tB,ahk,cT oJ,aeJ,dO,ff,bF,ij,iG,cw,cd,cy,reduceIte,if_true,if_false,cS,LV.kill,a9];exact rfl):p:=e.mpr k
end ale
open ale in
theorem af6:ar ae 7 [] (bL true):=by
 have gh:LV.pure (.agg [ak 2,.list 3 ((aH 2 0 1).map ab),.list 12 (jO.map dj)])=true:=pc;have hQt:=azq;have hEv:=aAY;have hSl:ar ae 48 [.agg [ak 2,.list 3 ((aH 2 0 1).map ab),.list 12 (jO.map dj)],lu uI 0] (.aQ [.list 7 ([((bU (0+bU 0 1*(1-0)) (0+bV 0 1*(1-0)),bV (0+bU 0 1*(1-0)) (0+bV 0 1*(1-0))),(1:Int))].map iB),.v (.slice none 0 0),iL 0]):=auz 2 0 1 jO 1 an an aib an an an uI 0 ⟨by decide +kernel,by decide +kernel,by decide +kernel⟩ an bj bj (fun x hx=>by
  have hd:∀x∈(lj jO uI 0),rl x<=1000000000:=bj;exact hd x hx) bj
 have hSd:ar ae 49 [lu uI 0,aB wk] (iL 0):=by
  have:=avO uI 0 wk 10 an ⟨by decide +kernel,by decide +kernel,by decide +kernel⟩ ⟨by decide +kernel,by decide +kernel,by decide +kernel⟩ an;rwa[show ez (nO uI wk) 0=0 from by decide +kernel]at this
 have hHa:ar ae 50 [cP ((bU (0+bU 0 1*(1-0)) (0+bV 0 1*(1-0)),bV (0+bU 0 1*(1-0)) (0+bV 0 1*(1-0))),(1:Int)).1,ab (1/2)] (bL true):=by
  have:=az0 ((bU (0+bU 0 1*(1-0)) (0+bV 0 1*(1-0)),bV (0+bU 0 1*(1-0)) (0+bV 0 1*(1-0))),(1:Int)).1 (1/2) bj bj;rwa[show vP ((bU (0+bU 0 1*(1-0)) (0+bV 0 1*(1-0)),bV (0+bU 0 1*(1-0)) (0+bV 0 1*(1-0))),(1:Int)).1 (1/2)=true from by decide +kernel]at this
 have wA:ar ae 46 [iL 1,iL 2] (ab (1/2)):=ahS 1 2 an an an an an;have hI4:ar ae 47 [iL 4] (ab 4):=aav 4 an an;have hI3:ar ae 47 [iL (-3)] (ab (-3)):=aav (-3) an an;refine aE Tryz.func7 ?_;refine aP ?_;refine cF rfl .nil hQt ?_;refine cp aK (wA) ?_;refine cF rfl (.cons (.pure gh) (.cons (.pure (al.pure _)) .nil)) hEv ?_;refine cO (hI4) ?_;refine cp bK (hI3) ?_;refine vd (aeI rfl rfl) ?_;refine ai rfl (auD (n:=uI) rfl) ?_;refine aA ?_;refine cF rfl .nil hQt ?_;refine aT ?_;refine cF rfl (.cons (.pure gh) (.cons (.pure (aaY uI 0)) .nil)) hSl ?_;refine dx ?_;refine cz 26 rfl ?_ ?_<;>intro abL h26
 ·refine ay ?_;refine cz 30 rfl ?_ ?_<;>intro uM ua
  ·refine aR ?_;refine cF (gr (v:=true) rfl rfl (uM) rfl) (.cons (.pure (aaY uI 0)) (.cons (.pure (a7.pure wk)) .nil)) hSd ?_;refine bw ?_;refine cz 36 rfl ?_ ?_<;>intro abK h36
   ·refine aV ?_;refine cz 41 rfl ?_ ?_<;>intro abw yX
    ·refine aV ?_;refine cz 46 rfl ?_ ?_<;>intro agW h46
     ·refine aT ?_;refine ai aio (.y4 (l:=[((bU (0+bU 0 1*(1-0)) (0+bV 0 1*(1-0)),bV (0+bU 0 1*(1-0)) (0+bV 0 1*(1-0))),(1:Int))]) rfl rfl an az) ?_;refine aT ?_;refine ai aio (.jQ (c:=cP ((bU (0+bU 0 1*(1-0)) (0+bV 0 1*(1-0)),bV (0+bU 0 1*(1-0)) (0+bV 0 1*(1-0))),(1:Int)).1) rfl (cB.pure _) (cB.aj _) (cB.isAgg _)) ?_;refine cp aK (wA) ?_;refine cF aio (.cons (.pure (cB.pure _)) (.cons (.pure (al.pure _)) .nil)) hHa ?_;refine aV ?_;exact dg
     exact absurd agW an
    exact absurd abw an
   exact absurd abK an
  exact absurd uM an
 exact absurd abL an
def kS(a b t:V3):M3:=⟨a,b,⟨0,0,1⟩,t⟩
def cN(a b t:V3):dJ:=⟨a.x,a.y,b.x,b.y,t.x,t.y⟩
theorem akV{a b t:V3}(ha:a.z=0)(hb:b.z=0)(ht:t.z=0)(p:V3):m3p (kS a b t) p=(cN a b t).ap p:=by
 obtain⟨px,py,pz⟩:=p;simp only[m3p,sn,kS,cN,dJ.ap,v3a,nO,ha,hb,ht];congr 1<;>grind
theorem aj4{a b t:V3}(ha:a.z=0)(hb:b.z=0):nO a (s7 b ⟨0,0,1⟩)=(cN a b t).dC:=by
 simp only[nO,s7,cN,dJ.dC,ha,hb];grind
theorem akP{a b t:V3}(ha:bE 1 a)(hb:bE 1 b)(ht:bE 1 t):wZ 1 (kS a b t):=⟨ha,hb,⟨by show rl 0<=1;decide,by show rl 0<=1;decide,by show rl 1<=1;decide⟩,ht⟩
theorem ahX{a b t:V3}(ha:a.z=0)(hb:b.z=0)(ht:t.z=0)(ba:bE 1 a)(bb:bE 1 b)(bt:bE 1 t){p:V3}(hp:bE 1 p):bE 12 ((cN a b t).ap p):=by
 have:=azE (akP ba bb bt) hp;rw[akV ha hb ht]at this;exact this
theorem aAD{x:Rat}(h:¬bY x<=0):0<x:=by
 unfold bY at h;by_cases h0:x=0
 ·rw[if_pos h0]at h;exact absurd (Int.le_refl 0) h
 rw[if_neg h0]at h;by_cases h1:x<0
 ·rw[if_pos h1]at h;exact absurd an h
 grind
theorem ay1{m:dJ}(hm:0<m.dC)(G:List (List V3)):oI (G.map (fl m.ap))=oI G:=by
 have h1:(G.map (fl m.ap)).length=G.length:=bF _;have h2:=au4 hm G;by_cases h0:G.length=0
 ·rw[oI,oI,if_pos h0,if_pos (h1.trans h0)]
 by_cases h:xK G
 ·rw[ahT h0 h,ahT aa (h2.2 h)]
 rw[aaQ h0 h,aaQ aa (fun g=>h (h2.1 g))]
theorem axo{G:List (List V3)}(hn:G.length<=3)(h:∀o∈G,o.length<=8/\∀p∈o,uc p):yH G 12:=⟨aa,fun o ho=>by have:=(h o ho).1;omega,fun o ho p hp=>((h o ho).2 p hp).1.le an⟩
theorem av6{a b t:V3}(ha:a.z=0)(hb:b.z=0)(ht:t.z=0)(ba:bE 1 a)(bb:bE 1 b)(bt:bE 1 t){G:List (List V3)}(hn:G.length<=3)(h:∀o∈G,o.length<=8/\∀p∈o,uc p):yH (G.map (fl (cN a b t).ap)) 12:=by
 refine⟨by rw[bF];omega,fun o ho=>?_,fun o ho p hp=>?_⟩
 ·obtain⟨q,hq,rfl⟩:=fB.1 ho;have:=(h q hq).1;rw[bF];omega
 obtain⟨q,hq,rfl⟩:=fB.1 ho;obtain⟨r,hr,rfl⟩:=fB.1 hp;exact ahX ha hb ht ba bb bt ((h q hq).2 r hr).1
theorem auG{l:List V3}(hl:l.length<=8)(hb:∀q∈l,bE 12 q):rl (gH l)<=1000:=by
 by_cases h:0<l.length
 ·have:=aeb (fun i=>vo hb h i) l.length;have g:l.length*(4*12+4)<=8*52:=Nat.mul_le_mul hl aa;unfold gH;omega
 have:l=[]:=by cases l<;>simp_all
 subst this;decide
theorem av3{m:dJ}{G:List (List V3)}(h:∀o∈G,o.length<=8/\∀p∈o,uc p):∀o∈G.map (fl m.ap),∀p∈o,p.z=0:=fun o ho p hp=>by
 obtain⟨q,hq,rfl⟩:=fB.1 ho;obtain⟨r,hr,rfl⟩:=fB.1 hp;exact((h q hq).2 r hr).2
section
attribute [local irreducible] qc yU lsV lsK
open oz in
theorem aAm:ar ae 11 [iL 2] (aB ⟨0,0,1⟩):=by
 have se:ar ae 47 [iL 1] (ab 1):=aav 1 an an;refine aE Tryz.func11 (ht:=(fun r=>LV.dF r _ (a7.pure _))) ?_;refine cO (se) ?_;refine cg ?_;exact yp
namespace apI
theorem aD{p q:Prop}(k:q)(e:p=q:=by simp only[bc,aZ,aW,aS,rZ,pG,tB,apr,aiJ,akI,anp,aao,aAk,aee,cT fM,dfL,bF,jW,dO,ff,eF,List.map_nil,gE,eX,ij,iG,cw,cd,cy,reduceIte,if_true,if_false,cS,LV.kill,a9];exact rfl):p:=e.mpr k
end apI
open apI in
theorem aAn(l:List Int)(i j m:Int)(hl:l.length<=9223372036854775807/\∀n∈l,-9223372036854775808<=n/\n<=9223372036854775807)(hi:-9223372036854775808<=i/\i<=9223372036854775807)(hj:-9223372036854775808<=j/\j<=9223372036854775807)(hm:-9223372036854775808<=m/\m<=9223372036854775807):ar ae 3 [.list 1 (l.map jx),iL i,iL j,iL m] (bL true):=by
 have bT:=hl.1;have rZ:(LV.agg [ab 0,ab 0,ab 0]).aj=9:=wL;refine aE Tryz.func3 ?_;have apr:True:=trivial;have aiJ:True:=trivial;have akI:True:=trivial;have anp:True:=trivial;refine yc0 (af6) ?_;refine aR ?_;refine cz 26 rfl ?_ ?_<;>intro abL h26
 ·refine yc0 (af6) ?_;refine aV ?_
  first|exact cm rfl (.pure rfl)|exact cm (x:=bL true) abU (.pure rfl)
 refine cO (aAB l bT) ?_;refine ay ?_;refine au rfl ?_ ?_<;>intro uM ua
 ·refine yc0 (af6) ?_;refine aV ?_
  first|exact cm rfl (.pure rfl)|exact cm (x:=bL true) abU (.pure rfl)
 have xt:l.length<=500:=by simpa using ua
 obtain⟨k1,wK⟩:∃k,yU l 0=k:=⟨_,rfl⟩;obtain⟨a,ea⟩:∃q,qc l 0=q:=⟨_,rfl⟩;have pT:k1<=500:=by rw[<-wK];exact ahV xt (bJ _)
 have hF0:=agM l 0 xt (bJ _);rw[ea,wK]at hF0;have ba:=agU l 0;have za:(qc l 0).z=0:=by unfold qc;rfl
 rw[ea]at ba za;obtain⟨k2,ek2⟩:∃k,yU l k1=k:=⟨_,rfl⟩;obtain⟨b,eb⟩:∃q,qc l k1=q:=⟨_,rfl⟩;have eQ:k2<=500:=by rw[<-ek2];exact ahV xt pT
 have hF1:=agM l k1 xt pT;rw[eb,ek2]at hF1;have bb:=agU l k1;have zb:(qc l k1).z=0:=by unfold qc;rfl
 rw[eb]at bb zb;obtain⟨k3,ek3⟩:∃k,yU l k2=k:=⟨_,rfl⟩;obtain⟨t,et⟩:∃q,qc l k2=q:=⟨_,rfl⟩;have hk3:k3<=500:=by rw[<-ek3];exact ahV xt eQ
 have hF2:=agM l k2 xt eQ;rw[et,ek3]at hF2;have bt:=agU l k2;have zt:(qc l k2).z=0:=by unfold qc;rfl
 rw[et]at bt zt;obtain⟨k4,ek4⟩:∃k,lsK l k3=k:=⟨_,rfl⟩;obtain⟨G,eG⟩:∃q,lsV l k3=q:=⟨_,rfl⟩;have hLs:=aAw l k3 xt hk3;rw[eG,ek4]at hLs;have hGn:G.length<=3:=by rw[<-eG];unfold lsV;rw[aql];exact(aoK l k3).2
 have hGo:∀o∈G,o.length<=8/\∀p∈o,uc p:=by rw[<-eG];unfold lsV;exact ala l _ _
 have hbm:=akP ba bb bt;have hVo:ar ae 14 [fR (kS a b t)] (ab (cN a b t).dC):=by
  have:=axC (kS a b t) 1 an hbm;rwa[show nO (kS a b t).a (s7 (kS a b t).b (kS a b t).c)=(cN a b t).dC from aj4 za zb]at this
 have pH:rl (cN a b t).dC<=100:=by
  have h1:=aeT bb (show bE 1 (⟨0,0,1⟩:V3) from ⟨by show rl 0<=1;decide,by show rl 0<=1;decide,by show rl 1<=1;decide⟩);have h2:=aca ba h1;rw[aj4 (t:=t) za zb]at h2;omega
 have hSg:=mM (cN a b t).dC aa;have hAp:∀q,bE 1 q->ar ae 16 [fR (kS a b t),aB q] (aB ((cN a b t).ap q)):=fun q hq=>by
  have:=art (kS a b t) 1 an hbm q hq;rwa[akV za zb zt]at this
 have ll:bE 1 (⟨fF i m,fF j m,0⟩:V3):=⟨ajP _ _,ajP _ _,by show rl 0<=1;decide⟩;have hpA:=ahX za zb zt ba bb bt ll;have hGl:=axo hGn hGo;have hHl:=av6 za zb zt ba bb bt hGn hGo;have hCk:=aqG G 12 an hGl (fun o ho p hp=>((hGo o ho).2 p hp).2);have hMP:=hAp (⟨fF i m,fF j m,0⟩:V3) ll;have hWh:=apv G (⟨fF i m,fF j m,0⟩:V3) 12 an hGl (ll.le an);refine aV ?_;refine xG [] rfl rfl (.cons dv .nil) (atS l) (dX l 0) rfl ?_;refine aA ?_;refine og 1000529 rfl rfl rfl (dX l _) (.cons .ptr .nil) .ptr hF0 rfl (dX l _) (a7.pure _) ?_;refine aT ?_;refine og 1000529 rfl rfl rfl (dX l _) (.cons .ptr .nil) .ptr hF1 rfl (dX l _) (a7.pure _) ?_;refine aP ?_;refine fk (fun L=>∃  (L1:St),(True)/\L=(mS L1 [(1000529,⟨2,[jD l k3],true⟩),(12,⟨36,[fR (kS a b t)],true⟩)] [(12,.ax 12 36 0 0),(9,.ax 1000529 2 0 0),(3,iL m),(2,iL j),(1,iL i)])) ?_ ?_
 ·refine alu ((av.bg (t:=10) (b:=10) (y:=aB a) rfl rfl (by rw[a7.aj]) (a7.isAgg _) (a7.pure _)).trans (av.bg (t:=11) (b:=11) (y:=LV.kill 10 (aB b)) rfl rfl (by rw[oW];rw[a7.aj]) (by rw[oW];exact a7.isAgg _) (by rw[oW];exact a7.pure _))) ?_;refine aD ?_;refine acA 0 rfl rfl bj (.pure (.jQ (c:=aB a) rfl (a7.pure _) (a7.aj _) (a7.isAgg _))) (fun c=>oW _ c) (bG (fun c=>LV.kM c _ (show LV.pure (.bg _)=true from a7.pure _)) trivial) ?_;refine acA 1 rfl rfl bj (.pure (.jQ (c:=aB b) rfl (a7.pure _) (a7.aj _) (a7.isAgg _))) (fun c=>oW _ c) (bG (fun c=>LV.kM c _ (show LV.pure (.bg _)=true from a7.pure _)) trivial) ?_
  repeat' first
   |(refine adM bj ?_;refine aT ?_;exact⟨_,trivial,ca⟩)
   |refine aek 2 4 7 _ _ _ bj rfl rfl rfl ?_ ?_ ?_
   |refine aek 3 4 7 _ _ _ bj rfl rfl rfl ?_ ?_ ?_
   |refine mZ 4 7 _ _ bj rfl rfl ?_ ?_
   |refine mZ 5 7 _ _ bj rfl rfl ?_ ?_
   |refine mZ 6 7 _ _ bj rfl rfl ?_ ?_
   |refine jk 7 _ bj rfl ?_
   |refine jk 8 _ bj rfl ?_
   |refine jk 6 _ bj rfl ?_
   |refine jk 5 _ bj rfl ?_
   |refine jk 4 _ bj rfl ?_
   |refine aek 3 5 7 _ _ _ bj rfl rfl rfl ?_ ?_ ?_
   |refine mZ 3 7 _ _ bj rfl rfl ?_ ?_
   |refine jk 3 _ bj rfl ?_
   |refine mZ 3 5 _ _ bj rfl rfl ?_ ?_
   |refine mZ 3 4 _ _ bj rfl rfl ?_ ?_
   |refine mZ 2 7 _ _ bj rfl rfl ?_ ?_
   |refine jk 2 _ bj rfl ?_
   |refine mZ 2 4 _ _ bj rfl rfl ?_ ?_
   |(refine cF rfl (.cons (.pure rfl) .nil) aAm ?_;refine kv ?_)
   |(refine ai rfl (au6 rfl rfl rfl) ?_;refine kv ?_)
   |(refine og 1000529 rfl rfl rfl (dX l _) (.cons .ptr .nil) .ptr hF2 rfl (dX l _) (a7.pure _) ?_;refine kv ?_)
   |(refine ai rfl (ay7 rfl rfl) ?_;refine kv ?_)
   |(refine dH rfl (.stE (e:=fR) (l:=[⟨⟨0,0,0⟩,⟨0,0,0⟩,⟨0,0,0⟩,⟨0,0,0⟩⟩]) (a:=(kS a b t)) rfl rfl rfl az) ?_;refine kv ?_)
   |(refine aT ?_;refine kv ?_)
   |fail
 rintro _ ⟨LR5,-,rfl⟩;refine ay ?_;refine og 1000529 rfl rfl rfl (dX l _) (.cons .ptr .nil) .ptr hLs rfl (dX l _) (bN fM 1 _) ?_;refine bC (alb i m hi hm) ?_;refine bC (alb j m hj hm) ?_;refine vd (aeI rfl rfl) ?_;refine aA ?_;refine ai rfl (.eP (x:=fR (kS a b t)) rfl rfl rfl rfl (gq.aj _) (fq (gq.aj _) rfl) T36) ?_;refine cF rfl (.cons (.pure (gq.pure _)) .nil) hVo ?_;refine cO (hSg) ?_;refine bw ?_;refine au rfl ?_ ?_<;>intro tj ta
 ·refine aP ?_
  first|exact cm rfl (.pure rfl)|exact cm (x:=bL true) abU (.pure rfl)
 have hD:0<(cN a b t).dC:=aAD ta;have akW:ar ae 21 [.list 1 ((G.map (fl (cN a b t).ap)).map b9)] (iL (oI G)):=by
  have:=aqG (G.map (fl (cN a b t).ap)) 12 an hHl (av3 hGo);rwa[ay1 hD]at this
 have atU:ar ae 22 [.list 1 ((G.map (fl (cN a b t).ap)).map b9),aB ((cN a b t).ap (⟨fF i m,fF j m,0⟩:V3))] (iL (whR (lO (⟨fF i m,fF j m,0⟩:V3) G))):=by
  have:=apv (G.map (fl (cN a b t).ap)) ((cN a b t).ap (⟨fF i m,fF j m,0⟩:V3)) 12 an hHl hpA;rwa[ajB hD]at this
 refine dx ?_;refine kD ((((((av.kill _ 1000529).trans (av.bg (t:=12) (b:=12) (y:=(LV.kill 1000529 (fR (kS a b t)))) rfl rfl (by rw[aao];exact gq.aj _) (by rw[aao];exact gq.isAgg _) (by rw[aao];exact gq.pure _))).trans (av.bg (t:=14) (b:=14) (y:=(LV.kill 12 (LV.kill 1000529 (aB (⟨fF i m,fF j m,0⟩:V3))))) rfl rfl (by rw[oW,oW,a7.aj]) (by rw[oW,oW,a7.isAgg]) (by rw[oW,oW,a7.pure]))).trans (av.bg (t:=15) (b:=15) (y:=(LV.kill 14 (LV.kill 12 (LV.kill 1000529 (ab (cN a b t).dC))))) rfl rfl (by rw[jz,jz,jz,al.aj];rfl) (by rw[jz,jz,jz,al.isAgg]) (by rw[jz,jz,jz,al.pure]))).trans (av.own (t:=16) 89 1 rfl rfl))) ?_;refine da (fun(k:Nat) L=>(mS L [(89,⟨1,((G.map (fl (cN a b t).ap)).take k).map b9,true⟩)] [(17,ak k),(16,.ref 89 1 0 k),(15,(LV.bg (ab (cN a b t).dC))),(14,(LV.bg (aB (⟨fF i m,fF j m,0⟩:V3)))),(13,.list 1 (G.map b9)),(12,(LV.bg (fR (kS a b t))))])) (fun k=>k<=G.length) (fun k=>G.length-k) 0 (bJ _) ?_;rintro k L1 hk;refine bx ?_;refine au rfl ?_ ?_<;>intro aaN yg
 ·have eQ:k<G.length:=aa;have hgm:(G.getD k [])∈G:=z7 eQ;obtain⟨hk8,hko⟩:=hGo _ hgm;have hlk:=hGl.at k;have hAr:=aep (G.getD k []) hlk.1 12 an hlk.2;have jw:((G.getD k []).map (cN a b t).ap).length<=64:=by rw[bF];omega
  have hzb:∀q∈((G.getD k []).map (cN a b t).ap),bE 12 q:=fun q hq=>by
   obtain⟨r,hr,rfl⟩:=fB.1 hq;exact ahX za zb zt ba bb bt (hko r hr).1
  have hAz:ar ae 18 [b9 ((G.getD k []).map (cN a b t).ap)] (ab ((cN a b t).dC*gH (G.getD k []))):=by
   have:=aep ((G.getD k []).map (cN a b t).ap) jw 12 an hzb;rwa[ahc]at this
  have dt:=auG hk8 hlk.2;have hmb:=du (cN a b t).dC (gH (G.getD k []));have hMu:=fo (cN a b t).dC (gH (G.getD k [])) aa;have hSm:ar ae 17 [ab ((cN a b t).dC*gH (G.getD k [])),ab ((cN a b t).dC*gH (G.getD k []))] (bL true):=by
   have:=nG ((cN a b t).dC*gH (G.getD k [])) ((cN a b t).dC*gH (G.getD k [])) aa;rwa[decide_eq_true rfl]at this
  have ra:=adx (G.getD k []) hlk.1 (⟨fF i m,fF j m,0⟩:V3) 12 an hlk.2 (ll.le an);have lN:ar ae 20 [b9 ((G.getD k []).map (cN a b t).ap),aB ((cN a b t).ap (⟨fF i m,fF j m,0⟩:V3))] (.aQ [iL ((gU (G.getD k []) (⟨fF i m,fF j m,0⟩:V3)).getD 0),bL (gU (G.getD k []) (⟨fF i m,fF j m,0⟩:V3)).isSome]):=by
   have:=adx ((G.getD k []).map (cN a b t).ap) jw ((cN a b t).ap (⟨fF i m,fF j m,0⟩:V3)) 12 an hzb hpA;rwa[ahJ hD]at this
  have aiJ:((G.map (fl (cN a b t).ap)).take k)++[((G.getD k []).map (cN a b t).ap)]=(G.map (fl (cN a b t).ap)).take (k+1):=x7 (fl (cN a b t).ap) G eQ;have apr:(((G.map (fl (cN a b t).ap)).take k).map b9).take k=((G.map (fl (cN a b t).ap)).take k).map b9:=cW bm;refine nB ?_;refine kD (av.own (t:=18) 85 9 rfl rfl) ?_;refine da (fun(n:Nat) L=>(mS L [(89,⟨1,((G.map (fl (cN a b t).ap)).take k).map b9,true⟩),(85,⟨9,(((G.getD k []).map (cN a b t).ap).take n).map aB,true⟩)] [(19,ak n),(18,.ref 85 9 0 n),(17,ak k),(16,.ref 89 1 0 k),(15,(LV.bg (ab (cN a b t).dC))),(14,(LV.bg (aB (⟨fF i m,fF j m,0⟩:V3)))),(13,.list 1 (G.map b9)),(12,(LV.bg (fR (kS a b t))))])) (fun n=>n<=(G.getD k []).length) (fun n=>(G.getD k []).length-n) 0 (bJ _) ?_;rintro n L2 hn;refine bp ?_;refine au rfl ?_ ?_<;>intro aBx h71
  ·have me:n<(G.getD k []).length:=aa;have hqo:=hko ((G.getD k []).getD n default) (z7 me);have hAq:=hAp ((G.getD k []).getD n default) hqo.1;have anp:(((G.getD k []).map (cN a b t).ap).take n)++[(cN a b t).ap ((G.getD k []).getD n default)]=((G.getD k []).map (cN a b t).ap).take (n+1):=x7 (cN a b t).ap (G.getD k []) me;have akI:((((G.getD k []).map (cN a b t).ap).take n).map aB).take n=(((G.getD k []).map (cN a b t).ap).take n).map aB:=cW bm;refine aA ?_;refine ai rfl (.jQ (c:=fR (kS a b t)) rfl (gq.pure _) (gq.aj _) (gq.isAgg _)) ?_;refine aP ?_;refine cF rfl (.cons (.pure (gq.pure _)) (.cons (.pure (a7.pure _)) .nil)) hAq ?_;refine aT ?_;refine dH rfl (.iJ (d:=85) (news:=[aB ((cN a b t).ap ((G.getD k []).getD n default))]) rfl rfl rfl rfl (by rw[bF,List.length_take,bF];omega) (.inl rfl) an wR wR Z31 kt cs B31 (.inl ⟨84,0,_,rfl,by decide,rfl,rfl,by simp,rfl,by simp[aN,a7.pure]⟩) bm bm an) ?_;refine ay ?_;refine bX (av.kill _ 84) ?_;refine aT ?_;refine c9 ?_;exact fj (n+1) aa
  obtain rfl:n=(G.getD k []).length:=aa;have hEz:((G.getD k []).map (cN a b t).ap).take (G.getD k []).length=((G.getD k []).map (cN a b t).ap):=cW az;simp only[hEz];refine aA ?_;refine bX (av.hand (t:=18) (b:=85) a7 rfl rfl az) ?_;refine bw ?_;refine aD ?_;refine dH rfl (.iJ (d:=89) (news:=[b9 ((G.getD k []).map (cN a b t).ap)]) rfl rfl rfl rfl (by simp[cT fM];omega) (.inl rfl) an xW xW loZ T42 rfl B42 (.inl ⟨88,0,_,rfl,by decide,rfl,rfl,by simp,rfl,by simp[aN,fM.pure]⟩) (by simp[cT fM];omega) (by simp[cT fM];omega) an) ?_;refine aV ?_;refine auZ 11 bj (av.kill _ 88) ?_;refine aT ?_;refine cF rfl (.cons (.pure (fM.pure _)) .nil) hAz ?_;refine ai rfl (.jQ (c:=ab (cN a b t).dC) rfl (al.pure _) (al.aj _) (al.isAgg _)) ?_;refine ay ?_;refine cF rfl (.cons (.pure (fM.pure _)) .nil) hAr ?_;refine cp aK (hMu) ?_;refine cp aK (hSm) ?_;refine bw ?_;refine ny ?_;refine bu ?_;refine acR ?_;refine cF rfl (.cons (.pure (fM.pure _)) (.cons (.pure (a7.pure _)) .nil)) ra ?_;refine cb ?_;refine ai rfl (.jQ (c:=fR (kS a b t)) rfl (gq.pure _) (gq.aj _) (gq.isAgg _)) ?_
  refine acR ?_;refine cF rfl (.cons (.pure (gq.pure _)) (.cons (.pure (a7.pure _)) .nil)) hMP ?_;refine cF rfl (.cons (.pure (fM.pure _)) (.cons (.pure (a7.pure _)) .nil)) lN ?_;refine dk ?_;refine cz 121 rfl ?_ ?_<;>intro awc aBQ
  ·simp at awc
  refine aA ?_;refine au rfl ?_ ?_<;>intro ayK aCq
  ·simp at ayK
  refine aV ?_;refine c9 ?_;exact fj (k+1) aa
 obtain rfl:k=G.length:=aa;have hE:(G.map (fl (cN a b t).ap)).take G.length=(G.map (fl (cN a b t).ap)):=cW az;simp only[hE];refine aP ?_;refine bX (av.hand (t:=16) (b:=89) fM rfl rfl az) ?_;refine aT ?_;refine cF rfl (.cons (.pure (bN fM 1 _)) .nil) hCk ?_;refine aT ?_;refine cF rfl (.cons (.pure (bN fM 1 _)) .nil) akW ?_;refine aR ?_;refine cz 131 rfl ?_ ?_<;>intro aiE aBy
 ·simp at aiE
 refine aT ?_;refine cF (gr (v:=false) rfl rfl (aiE) rfl) (.cons (.pure (bN fM 1 _)) .nil) hCk ?_;refine ay ?_;refine au rfl ?_ ?_<;>intro aBq aCB
 ·refine bw ?_;refine cF rfl (.cons (.pure (bN fM 1 _)) .nil) hCk ?_;refine aT ?_;refine cF rfl (.cons (.pure (bN fM 1 _)) .nil) akW ?_;refine aA ?_
  first|exact cm rfl (.pure rfl)|exact cm (x:=bL true) abU (.pure rfl)
 refine aV ?_;refine acR ?_;refine cF rfl (.cons (.pure (bN fM 1 _)) (.cons (.pure (a7.pure _)) .nil)) hWh ?_;refine aT ?_;refine ai rfl (.jQ (c:=fR (kS a b t)) rfl (gq.pure _) (gq.aj _) (gq.isAgg _)) ?_;refine acR ?_;refine cF rfl (.cons (.pure (gq.pure _)) (.cons (.pure (a7.pure _)) .nil)) hMP ?_;refine cF rfl (.cons (.pure (bN fM 1 _)) (.cons (.pure (a7.pure _)) .nil)) atU ?_;refine aV ?_
 first|exact cm rfl (.pure rfl)|exact cm (x:=bL true) abU (.pure rfl)
end
end Go.Proofs.YtbgmjcnjbhhljaaGreat
end
