/- Texts LgE of this proof, joined. -/
import Derived.Orders
import Derived.Below
import Derived.Deep.MidRow
import Derived.Deep.AppendSrc
import Derived.Laws.MakeOwn
import Derived.WalkKit
import Derived.Laws.Externs
import Derived.Laws.BytesString
import Derived.Laws.Cells
set_option linter.unusedVariables false
set_option linter.unusedSimpArgs false
namespace Go.Lg
theorem sX{p:Prop}(h:p:=by repeat (first|exact jB cl|refine aX ?_ cl)):p:=h
theorem eW{α:Type}{a b:α}(h:a=b:=by repeat (first|exact jB cl|refine aX ?_ cl)):b=a:=h.symm
theorem J{p:Prop}(h:p:=by omega):p:=h
theorem ee{p:Prop}(h:p:=by exact eG rfl (by first|exact .pure rfl|exact .pure (abd _)|exact .pure (mq _)|exact .pure (ao.pure _)|exact .pure (eY iE _ _)|exact .pure (eY ao _ _))):p:=h
theorem aRb{p:Prop}(h:p:=by first|exact .pure rfl|exact .pure (abd _)|exact .pure (mq _)|exact .pure (ao.pure _)|exact .pure (eY iE _ _)|exact .pure (eY ao _ _)):p:=h
theorem aj{p:Prop}(h:p:=by decide):p:=h
theorem aG{p:Prop}(h:p:=by decide +kernel):p:=h
theorem aBG{p:Prop}(h:p:=by exact .bin rfl rfl (agf (by omega))):p:=h
theorem fO{p:Prop}(h:p:=by exact iJ [] rfl rfl rfl (ao.aq _) (rn _) cS (.pure (ao.pure _))):p:=h
theorem aeq{p:Prop}(h:p:=by exact uv st (x::jk) (m+1) (cw++[rq na x (lk (x.1.take na) (x.1.drop na))]) ⟨(ax8 (D:=D) (wd:=wd) aeD h88 (by first|exact asu (by omega) ae7|exact asf (by omega) (by simpa using aeX)|exact amf (by omega))▸zw),xD,by omega,(by simp only[List.length_append,List.length_cons,List.length_nil];omega)⟩ (he:=((((au.kill _ 10).trans (au.kill _ 11)).trans (au.kill _ 143))).trans (au.of_eq (aX (aX (aX (aX (jB (by first|exact cl|(refine aJ ?_;refine wN ?_ ?_<;>repeat (first|exact trivial|refine And.intro rfl ?_)))) cl) cl) cl) cl)))):p:=h
theorem yo{p:Prop}(h:p:=by exact ⟨_,trivial,((aX (aX (aX (aX (aX (aX (jB (by first|exact cl|(refine aJ ?_;refine wN ?_ ?_<;>repeat (first|exact trivial|refine And.intro rfl ?_))|(refine wN ?_ ?_<;>repeat (first|exact trivial|refine And.intro rfl ?_)))) cl) cl) cl) cl) cl) cl)).symm⟩):p:=h
theorem aQ{p:Prop}(h:p:=by simp;omega):p:=h
theorem eN{p:Prop}(h:p:=by simp[LV.pure,aO,bm ao,bm ez]):p:=h
theorem aMB{p:Prop}(h:p:=by exact .eU (d:=1) (news:=[.agg [.list 6 ((x.1.take na).map ar),.list 6 ((x.1.drop na).map ar),ah (mG (lk (x.1.take na) (x.1.drop na))),ah (kV (lk (x.1.take na) (x.1.drop na)))]]) rfl rfl rfl rfl (by simp) (.inl rfl) (by decide) Tryz.underlying43 Tryz.underlying43 acw uR rfl B53 (.inl ⟨143,0,_,rfl,by decide,rfl,rfl,by simp,rfl,aI1⟩) (by simp;omega) (by simp;omega) (by decide)):p:=h
theorem vY{p:Prop}(h:p:=by first|exact cl|(refine aJ ?_;refine wN ?_ ?_<;>repeat (first|exact trivial|refine And.intro rfl ?_))):p:=h
theorem aE{p:Prop}(h:p:=by simp):p:=h
theorem aRj{p:Prop}(h:p:=by first|exact cl|(refine aJ ?_;refine wN ?_ ?_<;>repeat (first|exact trivial|refine And.intro rfl ?_))|(refine wN ?_ ?_<;>repeat (first|exact trivial|refine And.intro rfl ?_))):p:=h
theorem mL{p:Prop}(h:p:=by exact iJ [] rfl rfl rfl (bj.aq _) (aca _) lF (.pure (bj.pure _))):p:=h
theorem aMO{p:Prop}(h:p:=by exact .bin rfl rfl (aem (by omega) (by omega))):p:=h
theorem cX{p:Prop}(h:p:=by simp[Op.operands]):p:=h
theorem amr{p:Prop}(h:p:=by exact ji (i+1) (by omega) (he:=au.of_eq (aX (aX (aX (aX (aX (aX (aX (jB (by first|exact cl|(refine aJ ?_;refine wN ?_ ?_<;>repeat (first|exact trivial|refine And.intro rfl ?_))|(simp only[elA,elB];refine wN ?_ ?_<;>repeat (first|exact trivial|refine And.intro rfl ?_))|(refine wN ?_ ?_<;>repeat (first|exact trivial|refine And.intro rfl ?_)))) cl) cl) cl) cl) cl) cl) cl))):p:=h
theorem fW{p:Prop}(h:p:=by rw[List.length_map];omega):p:=h
theorem ba{p:Prop}(h:p:=by grind):p:=h
theorem gM{p:Prop}(h:p:=by exact ji (i+1) (by omega)):p:=h
theorem ka{p:Prop}(h:p:=by first|assumption|exact dX _):p:=h
theorem agX{p:Prop}(h:p:=by first|omega|(simp only[List.length_map];omega)):p:=h
theorem iB{p:Prop}(h:p:=by exact eG rfl (.pure rfl)):p:=h
theorem asl{p:Prop}(h:p:=by exact .fa rfl rfl rfl rfl cs (cU cs rfl) fo):p:=h
theorem aRs{p:Prop}(h:p:=by first|exact cl|(refine aJ ?_;refine wN ?_ ?_<;>repeat (first|exact trivial|refine And.intro rfl ?_))|(simp only[elA,elB];refine wN ?_ ?_<;>repeat (first|exact trivial|refine And.intro rfl ?_))|(refine wN ?_ ?_<;>repeat (first|exact trivial|refine And.intro rfl ?_))):p:=h
theorem mB{p:Prop}(h:p:=by simp[Op.operands,Call.operands]):p:=h
theorem api{p:Prop}(h:p:=by exact .eU (d:=95) (news:=[ae (k.getD i 0)]) rfl rfl rfl rfl (by first|(simp;done)|(simp;omega)) (.inl rfl) (by decide) Tryz.underlying25 Tryz.underlying25 jg cS rfl jq (.inl ⟨34,0,_,rfl,by decide,rfl,rfl,by simp,rfl,by simp[aO,ao.pure]⟩) (by simp;omega) (by simp;omega) (by decide)):p:=h
theorem ah9{p:Prop}(h:p:=by rw[show (mH (ec (ot (m8 u v)).a [(bg.getD 0 default).p] (a9.map aF.p)) (ec (ot (m8 u v)).a [(bg.getD (bg.length-1) default).p] (a9.map aF.p)))=false from aBT];simp):p:=h
theorem vG{p:Prop}(h:p:=by exact iJ [] rfl rfl rfl cs (cU cs rfl) jw (.pure pu)):p:=h
theorem anG{p:Prop}(h:p:=by exact .eU (d:=26) (news:=[mF (n5 x),mF (nJ x)]) rfl rfl rfl rfl (by simp) (.inl rfl) (by decide) Tryz.underlying135 Tryz.underlying135 aqQ aau rfl aPg (.inl ⟨155,0,_,rfl,by decide,rfl,rfl,by simp,rfl,by simp[aO,aaA]⟩) (by simp;omega) (by simp;omega) (by decide)):p:=h
theorem aQv{p:Prop}(h:p:=by first|exact asu (by omega) ae7|exact asf (by omega) (by simpa using aeX)|exact amf (by omega)):p:=h
theorem acn{p:Prop}(h:p:=by first|omega|(simp only[th,tv,tP,tG];omega)):p:=h
theorem agb{p:Prop}(h:p:=by first|exact .avw (h:=_) iE rfl Tryz.underlying29 uZ rfl om|exact .ahJ rfl Tryz.underlying29 uZ rfl om om):p:=h
theorem aqN{p:Prop}(h:p:=by simp only[List.length_append,List.length_cons,List.length_nil];omega):p:=h
theorem aNR{p:Prop}(h:p:=by exact .eU (d:=32) (sz:=3) (news:=[.agg [ah d,.list 3 (KZ.map ae),.list 12 (pZ.map aA)]]) (z:=.agg [.v (.int .i64 0),.v (.slice none 0 0),.v (.slice none 0 0)]) rfl rfl rfl rfl (by simp) (.inl rfl) (by decide) Tryz.underlying78 Tryz.underlying78 Z28 fo rfl B28 (.inl ⟨36,0,_,rfl,by decide,rfl,rfl,by simp,rfl,p9⟩) (by simp) (by simp) (by decide)):p:=h
theorem vX{p:Prop}(h:p:=by exact .bin rfl rfl (ab1 (by omega) (by omega))):p:=h
theorem acy{p:Prop}(h:p:=by exact ⟨[],cs,[],by simp,rfl,by rw[hl,hd,h2];rfl,by simpa using hy,by rw[h2];rfl⟩):p:=h
theorem tU{p:Prop}(h:p:=by first|rw[s9,hl]|rw[tb,hl]):p:=h
theorem sZ{p:Prop}(h:p:=by exact .bin rfl rfl (zE (by omega))):p:=h
theorem ajl{p:Prop}(h:p:=by exact ⟨_,trivial,((aX (aX (aX sX (by first|exact uY|exact uY.symm|(refine aJ ?_;first|exact uY|exact uY.symm))) cl) cl)).symm⟩):p:=h
theorem ahu{p:Prop}(h:p:=by exact iJ [] rfl rfl rfl rfl rfl cS (.agg (.cons (.pure rfl) (.cons (.pure (mq _)) (.cons (.pure (mq _)) .nil))))):p:=h
theorem atk{p:Prop}(h:p:=by exact .zG (d:=32) (sz:=3) (news:=[.agg [ah d,.list 3 (KA.map ae),.list 12 (pA.map aA)]]) (z:=.agg [.v (.int .i64 0),.v (.slice none 0 0),.v (.slice none 0 0)]) rfl rfl Tryz.underlying78 Tryz.underlying78 Z28 fo rfl B28 (.inl ⟨31,0,_,rfl,rfl,rfl,by simp,rfl,yH⟩) (by simp) (by simp) (by simp) (by decide)):p:=h
theorem adA{p:Prop}(h:p:=by exact ⟨[],cs,[],by simp,rfl,by simpa[LV.aq]using hl,hr,rfl,rfl,by simp,by simp⟩):p:=h
theorem avj{p:Prop}(h:p:=by exact .eU (d:=35) (news:=[ae ((kS d a t b).getD i 0)]) rfl rfl rfl rfl (by first|(simp;done)|(simp;omega)) (.inl rfl) (by decide) Tryz.underlying25 Tryz.underlying25 jg cS rfl jq (.inl ⟨72,0,_,rfl,by decide,rfl,rfl,by simp,rfl,by simp[aO,ao.pure]⟩) (by simp;omega) (by simp;omega) (by decide)):p:=h
theorem vJ{p:Prop}(h:p:=by first|omega|(simp;done)|(simp;omega)):p:=h
theorem wc{p:Prop}(h:p:=by exact uC rfl (.pure rfl) rfl (.pure rfl)):p:=h
theorem alX{p:Prop}(h:p:=by exact ⟨_,rfl,by rw[h0];simp[lay,ao.aq,ao.isAgg],by rw[h0];exact LV.fJ (ao.pure _),by rw[h0];exact LV.fh (ao.pure _)⟩):p:=h
theorem wB{p:Prop}(h:p:=by rw[List.length_map,List.length_take];omega):p:=h
theorem aeJ{p:Prop}(h:p:=by first|(simp;done)|(simp;omega)):p:=h
theorem ayr{p:Prop}(h:p:=by exact .app (news:=[ae (k.getD i 0)]) rfl rfl rfl rfl rfl (by rw[List.length_map];omega) (.inl rfl) (by decide) Tryz.underlying25 Tryz.underlying25 jg cS rfl jq (.inl ⟨31,0,_,rfl,by decide,rfl,rfl,by simp,rfl,by simp[aO,ao.pure]⟩) (by simp;omega) (by simp;omega) (by decide)):p:=h
theorem ae2{p:Prop}(h:p:=by exact wO [] rfl rfl rfl (bj.aq _) (aca _) lF (.pure (bj.pure _)) rfl (.pure rfl)):p:=h
theorem aIW{p:Prop}(h:p:=by exact .aNb ayK jg):p:=h
theorem awf{p:Prop}(h:p:=by exact .eU (d:=8) (news:=[ae (p.getD k 0)]) rfl rfl rfl rfl (by simp;omega) (.inl rfl) (by decide) Tryz.underlying25 Tryz.underlying25 jg cS rfl jq (.inl ⟨19,0,_,rfl,by decide,rfl,rfl,by simp,rfl,by simp[aO,ao.pure]⟩) (by simp;omega) (by simp;omega) (by decide)):p:=h
theorem xZ{p:Prop}(h:p:=by first|(simp;done)|(simp;omega)|omega):p:=h
theorem tA{p:Prop}(h:p:=by simp[LV.pure,aO,ao.pure]):p:=h
theorem aqh{p:Prop}(h:p:=by exact .zg (a:=i+1) (h:=k.length+1) rfl Tryz.underlying25 cS (fun y hy=>by cases hy;exact⟨_,rfl⟩) (fun h=>by cases h) (fun y hy=>by cases hy) (fun _=>rfl) om om om):p:=h
theorem akW{p:Prop}(h:p:=by exact .fa (b:=15) (sz:=4) (i:=0) (o:=0) (x:=lh 1 x) (r:=lh 1 x) (n:=4) (ag:=true) rfl rfl rfl rfl rfl (cU rfl rfl) pX):p:=h
theorem amE{p:Prop}(h:p:=by exact .zg (a:=i) (h:=k.length+1) rfl Tryz.underlying25 cS (fun y hy=>by cases hy;exact⟨_,rfl⟩) (fun h=>by cases h) (fun y hy=>by cases hy) (fun _=>rfl) om om om):p:=h
theorem aeR{p:Prop}(h:p:=by exact .bin rfl rfl (aeT (by first|omega|(simp only[th,tv,tP,tG];omega)))):p:=h
theorem agO{p:Prop}(h:p:=by exact wO [] rfl rfl rfl (ao.aq _) (rn _) cS (.pure (ao.pure _)) rfl (.pure rfl)):p:=h
theorem aoC{p:Prop}(h:p:=by exact awt [] rfl rfl rfl (ao.aq _) (rn _) cS (.pure (ao.pure _)) rfl rfl (ao.aq _) (rn _) cS (.pure (ao.pure _)) rfl (.pure rfl)):p:=h
theorem atF{p:Prop}(h:p:=by exact aAn (d:=1000881) rfl rfl cs (cU cs rfl) fo dZ rfl rfl rfl (cU rfl rfl) fo rfl xy rfl (bm ez _) rfl rfl (ao.aq _) (rn _) cS (ao.pure _) rfl rfl (ao.aq _) (rn _) cS (ao.pure _) rfl rfl):p:=h
theorem auj{p:Prop}(h:p:=by exact aAn (d:=1000465) rfl rfl cs (cU cs rfl) fo dZ rfl rfl rfl (cU rfl rfl) fo rfl xy rfl (bm ez _) rfl rfl (ao.aq _) (rn _) cS (ao.pure _) rfl rfl (ao.aq _) (rn _) cS (ao.pure _) rfl rfl):p:=h
theorem aAo{p:Prop}(h:p:=by exact .app rfl rfl rfl rfl rfl (Nat.zero_le _) (.inr rfl) (by decide) Tryz.underlying29 Tryz.underlying29 adB uZ rfl aej (.inr (.inl rfl)) (by first|(simp;done)|(simp;omega)) (by first|(simp;done)|(simp;omega)) (by decide)):p:=h
theorem mA{p:Prop}(h:p:=by simpa using h):p:=h
theorem tT{p:Prop}(h:p:=by exact ⟨_,trivial,eW⟩):p:=h
theorem aaP{p:Prop}(h:p:=by first|omega|(simp only[cL];omega)):p:=h
theorem azc{p:Prop}(h:p:=by exact .eU (d:=10) (news:=B.map ar) rfl rfl rfl rfl (by simp) (.inl rfl) (by decide) Tryz.underlying51 Tryz.underlying51 yN (by rw[bj.isAgg];exact lF) cs B60 (.inr (.inl rfl)) (by simp;omega) (by simp;omega) (by decide)):p:=h
theorem agY{p:Prop}(h:p:=by rw[List.getD_eq_getElem?_getD,List.getElem?_eq_getElem cM];exact List.getElem_mem cM):p:=h
theorem ahm{p:Prop}(h:p:=by exact aea [] rfl rfl (.pure (mq _)) rfl (.pure (mq _)) rfl (.pure rfl)):p:=h
theorem k6{p:Prop}(h:p:=by kernel_rfl):p:=h
theorem azS{p:Prop}(h:p:=by exact .qt (n:=((jj:Nat):Int)) (r:=.agg [.list 6 ([s].map ar),.list 6 ([r].map ar),ah (cls.getD jj default).2.2.1,ah (cls.getD jj default).2.2.2]) rfl Tryz.underlying43 uR rfl (by omega) hcj rfl):p:=h
theorem acz{p:Prop}(h:p:=by exact .bin rfl rfl (w6 (by omega) (by omega))):p:=h
theorem ahn{p:Prop}(h:p:=by first|rfl|(rw[azm];rfl)):p:=h
theorem aRq{p:Prop}(h:p:=by rw[fI _ _ _ _ _ (by omega),if_pos (by omega)]):p:=h
theorem amb{p:Prop}(h:p:=by exact .fa rfl rfl rfl rfl cs (cU cs rfl) T35):p:=h
theorem aQA{p:Prop}(h:p:=by first|exact uY|exact uY.symm|(refine aJ ?_;first|exact uY|exact uY.symm)):p:=h
theorem aqi{p:Prop}(h:p:=by intro x hx;simp only[List.map_cons,List.map_nil,List.mem_cons,List.not_mem_nil,or_false]at hx;unfold dv;omega):p:=h
theorem yd{p:Prop}(h:p:=by exact ji (j+1) (by omega)):p:=h
theorem qQ{p:Prop}(h:p:=by rw[jW];omega):p:=h
theorem aab{p:Prop}(h:p:=by rw[List.length_take];omega):p:=h
theorem aru{p:Prop}(h:p:=by exact .qt (r:=cR (CA.getD i default)) rfl Tryz.underlying78 fo rfl (by omega) (axE cM) (dG.aq _)):p:=h
theorem arB{p:Prop}(h:p:=by exact .qt (r:=cR (CB.getD j default)) rfl Tryz.underlying78 fo rfl (by omega) (axE iH) (dG.aq _)):p:=h
theorem ak1{p:Prop}(h:p:=by exact ajr rfl rfl cs (cU cs rfl) oT (.pure pu) rfl rfl (gC l _)):p:=h
theorem arM{p:Prop}(h:p:=by simp only[List.length_cons,List.length_map];omega):p:=h
theorem afB{p:Prop}(h:p:=by exact iJ [] rfl rfl rfl rfl rfl cS (.pure rfl)):p:=h
theorem ah1{p:Prop}(h:p:=by exact iJ [] rfl rfl rfl cs (cU cs rfl) T87 (.pure pu)):p:=h
theorem ajU{p:Prop}(h:p:=by show rl (cA p (l.getD i default))+rl (cA p (l.getD i default))<=_;omega):p:=h
theorem adf{p:Prop}(h:p:=by simp[LV.pure,aO,bm ao]):p:=h
theorem amq{p:Prop}(h:p:=by exact .fa rfl rfl rfl rfl (fB.aq m) (cU (fB.aq m) rfl) T67):p:=h
theorem qN{p:Prop}(h:p:=by exact .inl h):p:=h
theorem aBb{p:Prop}(h:p:=by first|exact ao.aq _|(simp only[kT];exact ao.aq _)):p:=h
theorem at4{p:Prop}(h:p:=by first|exact ao.isAgg _|(simp only[kT];exact ao.isAgg _)):p:=h
theorem axS{p:Prop}(h:p:=by first|exact ao.pure _|(simp only[kT];exact ao.pure _)):p:=h
theorem ahL{p:Prop}(h:p:=by exact .fa rfl rfl rfl rfl rfl (cU rfl rfl) fo):p:=h
theorem aef{p:Prop}(h:p:=by rw[List.take_append_drop];exact g4):p:=h
theorem xT{p:Prop}(h:p:=by rw[sV];omega):p:=h
theorem ajj{p:Prop}(h:p:=by simp[LV.pure,aO,bm ao,bm pH,-List.map_map]):p:=h
theorem ahK{p:Prop}(h:p:=by simp[LV.pure,aO,bm ao,bm pH]):p:=h
theorem ago{p:Prop}(h:p:=by simp[aO,LV.pure,bm ao,bm ez]):p:=h
theorem ahT{p:Prop}(h:p:=by exact .bin rfl rfl (ap5 (by omega) (by omega))):p:=h
theorem aei{p:Prop}(h:p:=by simp[lay,ao.aq,ao.isAgg]):p:=h
theorem adh{p:Prop}(h:p:=by exact ib (v:=true) rfl rfl ((decide_eq_true J)) rfl):p:=h
theorem nQ{p:Prop}(h:p:=by exact ib (v:=true) rfl rfl ((rfl)) rfl):p:=h
theorem oN{p:Prop}(h:p:=by exact ib (v:=false) rfl rfl ((rfl)) rfl):p:=h
theorem ac2{p:Prop}(h:p:=by exact ib (v:=false) rfl rfl ((bne_self_eq_false _)) rfl):p:=h
theorem rO{p:Prop}(h:p:=by exact ib (v:=false) rfl rfl ((decide_eq_false c1)) rfl):p:=h
theorem rW{p:Prop}(h:p:=by exact ib (v:=true) rfl rfl ((decide_eq_true agX)) rfl):p:=h
theorem alG{p:Prop}(h:p:=by exact ib (v:=true) rfl rfl (aj) rfl):p:=h
theorem vo{p:Prop}(h:p:=by exact ib (v:=false) rfl rfl ((decide_eq_false J)) rfl):p:=h
theorem xY{p:Prop}(h:p:=by exact ib (v:=false) rfl rfl ((beq_eq_false_iff_ne.2 J)) rfl):p:=h
theorem abn{p:Prop}(h:p:=by exact ib (v:=true) rfl rfl ((decide_eq_true uk)) rfl):p:=h
theorem acL{p:Prop}(h:p:=by exact ib (v:=true) rfl rfl ((decide_eq_true rfl)) rfl):p:=h
theorem aga{p:Prop}(h:p:=by exact ib (v:=false) rfl rfl (ahn) rfl):p:=h
theorem aiw{p:Prop}(h:p:=by exact ib (v:=true) rfl rfl ((decide_eq_true arM)) rfl):p:=h
theorem aml{p:Prop}(h:p:=by exact ib (v:=false) rfl rfl ((bne_eq_false_iff_eq.2 agX)) rfl):p:=h
theorem ak4{p:Prop}(h:p:=by exact ib (v:=false) rfl rfl ((decide_eq_false xW)) rfl):p:=h
theorem arA{p:Prop}(h:p:=by exact ib (v:=false) rfl rfl ((by rw[aao];rfl)) rfl):p:=h
theorem aqx{p:Prop}(h:p:=by exact ib (v:=true) rfl rfl ((by rw[aao];rfl)) rfl):p:=h
theorem aqk{p:Prop}(h:p:=by exact ib (v:=true) rfl rfl (rfl) rfl):p:=h
theorem ao6{p:Prop}(h:p:=by exact ib (v:=true) rfl rfl (ahn) rfl):p:=h
end Go.Lg
open Array renaming ext'->y6,getElem?_eq_some_iff->lX,getElem?_toList->afy,length_toList->pT,map->ahG,size_push->amW
open BitVec renaming ofInt->we
open Decidable renaming not_not->aJb
open List renaming append_nil->ey,cons_append->atv,drop_append->aCy,drop_drop->rZ,drop_of_length_le->mE,getElem?_cons_zero->o8,getElem?_eq_getElem->ck,getElem?_eq_some_iff->qi,getElem?_map->jY,length_append->jx,length_cons->dR,length_map->cC,length_nil->fX,length_set->lQ,length_take->fH,map_cons->nK,map_nil->gy,mem_map->cZ,mem_of_getElem?->vI,mem_of_mem_drop->yF,mem_of_mem_take->yJ,nil_append->fD,replicate->av,set_cons_succ->du,set_cons_zero->dD,take_append_drop->ur,take_nil->gU,take_succ_cons->qS
open List.cons renaming injEq->iF
open Nat renaming add_assoc->vp,add_mul->iV,add_zero->nW,le_refl->bF,min_eq_left->nM,reduceAdd->bp,reduceBEq->bh,reduceEqDiff->dC,reduceMul->bo,zero_add->fZ
open Option renaming map_eq_some_iff->abz,map_none->aqe,map_some->uh
open Option.some renaming injEq->gj
open Prod.mk renaming injEq->xw
section
set_option linter.unusedVariables false
set_option linter.unusedSimpArgs false
namespace Go.Lg
inductive LV where
 |any
 |v (x:Value)
 |list (sz:Nat) (l:List LV)
 |agg (l:List LV)
 |ref (b sz off len:Nat)
 |lj (b sz off len cap:Nat)
 |aB (b sz i o:Nat)
 |cx (c:LV)
 |dT (f:FuncId) (cap:List LV)
 |aY (l:List LV)
instance:Inhabited LV:=⟨.any⟩
mutual
def LV.aq:LV->Nat
 | .agg l=>dg l
 |_=>1
def dg:List LV->Nat
 | []=>0
 |x::xs=>x.aq+dg xs
end
def LV.isAgg:LV->Bool
 | .agg _=>true
 |_=>false
mutual
def LV.pure:LV->Bool
 | .ref ..=>false
 | .lj ..=>false
 | .aB ..=>false
 | .aY _=>false
 | .any=>false
 | .v _=>true
 | .list _ l=>aO l
 | .agg l=>aO l
 | .cx c=>c.pure
 | .dT _ l=>aO l
def aO:List LV->Bool
 | []=>true
 |x::xs=>x.pure&&aO xs
end
theorem aaX(l:List LV):aO l=true↔∀x∈l,x.pure=true:=by
 induction l with
 |nil=>simp[aO]
 |cons x xs ih=>simp[aO,ih]
mutual
def aH(Z:Nat->Prop)(μ:Nat->Option Nat)(w:World):LV->List Value->Prop
 | .any,cs=>∀u∈cs,u.oneCell'=true
 | .v x,cs=>cs=[x]/\x.oneCell'=true
 | .list sz l,cs=>∃a len cap,cs=[.slice a len cap]/\len=l.length/\len<=cap /\
   (l=[]\/∃blk off c T fz part rest,a=some ⟨blk,off,none⟩/\Z blk/\w.heap[blk]?=some (.cells c T fz) /\
    c.toList.drop off=part++rest/\aT Z μ w sz l part)/\aO l=true
 | .agg l,cs=>cP Z μ w l cs
 | .ref b sz off len,cs=>(cs=[.slice none 0 0]/\len=0)\/∃id cap c T fz,cs=[.slice (some ⟨id,off*sz,none⟩) len cap]/\μ b=some id/\len<=cap /\
   w.heap[id]?=some (.cells c T fz)/\(off+cap)*sz<=c.size
 | .lj b sz off len cap,cs=>∃id c T fz,cs=[.slice (some ⟨id,off*sz,none⟩) len cap]/\μ b=some id/\len<=cap /\
   w.heap[id]?=some (.cells c T fz)/\(off+cap)*sz<=c.size
 | .aB b sz i o,cs=>∃id,cs=[.pointer (some ⟨id,i*sz+o,none⟩)]/\μ b=some id
 | .cx c,cs=>∃blk off cc T fz part rest,cs=[.pointer (some ⟨blk,off,none⟩)]/\Z blk/\w.heap[blk]?=some (.cells cc T fz) /\
   cc.toList.drop off=part++rest/\part.length=c.aq/\aH Z μ w c part/\c.pure=true
 | .dT f cap,cs=>∃vs,cs=[.func (.func f) #[] vs]/\aT Z μ w 1 cap vs.toList/\aO cap=true
 | .aY _,_=>False
def aT(Z:Nat->Prop)(μ:Nat->Option Nat)(w:World)(sz:Nat):List LV->List Value->Prop
 | [],cs=>cs=[]
 |x::xs,cs=>∃c1 c2,cs=c1++c2/\c1.length=sz/\aH Z μ w x c1/\aT Z μ w sz xs c2
def cP(Z:Nat->Prop)(μ:Nat->Option Nat)(w:World):List LV->List Value->Prop
 | [],cs=>cs=[]
 |x::xs,cs=>∃c1 c2,cs=c1++c2/\c1.length=x.aq/\aH Z μ w x c1/\cP Z μ w xs c2
end
def g8(Z:Nat->Prop)(μ:Nat->Option Nat)(w:World)(lv:LV)(v:Value):Prop :=
 (lv.isAgg=true->∃cs,v=.agg cs/\aH Z μ w lv cs.toList)/\(lv.isAgg=false->aH Z μ w lv [v])
def il(Z:Nat->Prop)(μ:Nat->Option Nat)(w:World):List LV->List Value->Prop
 | [],vs=>vs=[]
 |x::xs,vs=>∃v l7,vs=v::l7/\g8 Z μ w x v/\il Z μ w xs l7
def bJ(Z:Nat->Prop)(μ:Nat->Option Nat)(w:World):LV->Value->Prop
 | .aY l,v=>∃vs,v=.tuple vs/\il Z μ w l vs.toList
 | .any,_=>True
 |lv,v=>g8 Z μ w lv v
structure Frame (Z:Nat->Prop) (μ:Nat->Option Nat) (w w':World):Prop where
 z:∀id,Z id->w'.heap[id]?=w.heap[id]?
 m:∀b id,μ b=some id->∀c T fz,w.heap[id]?=some (.cells c T fz)->∃c',w'.heap[id]?=some (.cells c' T fz)/\c'.size=c.size
theorem Frame.refl(Z:Nat->Prop)(μ:Nat->Option Nat)(w:World):Frame Z μ w w:=⟨fun _ _=>rfl,fun _ _ _ c _ _ h=>⟨c,h,rfl⟩⟩
section
variable {Z Z':Nat->Prop} {μ bE:Nat->Option Nat} {w w':World}
mutual
theorem aH.mono(hz:∀id,Z id->Z' id)(hm:∀b id,μ b=some id->bE b=some id)(hf:Frame Z μ w w'):
  ∀(lv:LV) (cs:List Value),aH Z μ w lv cs->aH Z' bE w' lv cs
 | .any,_,h=>by simpa[aH]using h
 | .v x,cs,h=>by simpa[aH]using h
 | .list sz l,cs,h=>by
   simp only[aH]at h ⊢;obtain⟨a,len,cap,h1,h2,h3,h4,h9⟩:=h;refine⟨a,len,cap,h1,h2,h3,?_,h9⟩;rcases h4 with h4|⟨blk,off,c,T,fz,part,rest,e1,e2,e3,e4,e5⟩
   ·exact .inl h4
   exact .inr ⟨blk,off,c,T,fz,part,rest,e1,hz _ e2,(hf.z _ e2).trans e3,e4,aT.mono hz hm hf sz l part e5⟩
 | .agg l,cs,h=>by
   simp only[aH]at h ⊢;exact cP.mono hz hm hf l cs h
 | .ref b sz off len,cs,h=>by
   simp only[aH]at h ⊢;rcases h with h|⟨id,cap,c,T,fz,h1,h2,h3,h4,h5⟩
   ·exact qN
   obtain⟨c',h6,h7⟩:=hf.m b id h2 c T fz h4;exact .inr ⟨id,cap,c',T,fz,h1,hm _ _ h2,h3,h6,J⟩
 | .lj b sz off len cap,cs,h=>by
   simp only[aH]at h ⊢;obtain⟨id,c,T,fz,h1,h2,h3,h4,h5⟩:=h;obtain⟨c',h6,h7⟩:=hf.m b id h2 c T fz h4;exact⟨id,c',T,fz,h1,hm _ _ h2,h3,h6,J⟩
 | .aB b sz i o,cs,h=>by
   simp only[aH]at h ⊢;obtain⟨id,h1,h2⟩:=h;exact⟨id,h1,hm _ _ h2⟩
 | .cx c,cs,h=>by
   simp only[aH]at h ⊢;obtain⟨blk,off,cc,T,fz,part,rest,h1,h2,h3,h4,h5,h6,h7⟩:=h;exact⟨blk,off,cc,T,fz,part,rest,h1,hz _ h2,(hf.z _ h2).trans h3,h4,h5,aH.mono hz hm hf c part h6,h7⟩
 | .dT f cap,cs,h=>by
   simp only[aH]at h ⊢;obtain⟨vs,h1,h2,h3⟩:=h;exact⟨vs,h1,aT.mono hz hm hf 1 cap vs.toList h2,h3⟩
 | .aY _,_,h=>by simp[aH]at h
theorem aT.mono(hz:∀id,Z id->Z' id)(hm:∀b id,μ b=some id->bE b=some id)(hf:Frame Z μ w w')(sz:Nat):
  ∀(l:List LV) (cs:List Value),aT Z μ w sz l cs->aT Z' bE w' sz l cs
 | [],cs,h=>by simpa[aT]using h
 |x::xs,cs,h=>by
   simp only[aT]at h ⊢;obtain⟨c1,c2,h1,h2,h3,h4⟩:=h;exact⟨c1,c2,h1,h2,aH.mono hz hm hf x c1 h3,aT.mono hz hm hf sz xs c2 h4⟩
theorem cP.mono(hz:∀id,Z id->Z' id)(hm:∀b id,μ b=some id->bE b=some id)(hf:Frame Z μ w w'):
  ∀(l:List LV) (cs:List Value),cP Z μ w l cs->cP Z' bE w' l cs
 | [],cs,h=>by simpa[cP]using h
 |x::xs,cs,h=>by
   simp only[cP]at h ⊢;obtain⟨c1,c2,h1,h2,h3,h4⟩:=h;exact⟨c1,c2,h1,h2,aH.mono hz hm hf x c1 h3,cP.mono hz hm hf xs c2 h4⟩
end
theorem pure_cons{x:LV}{xs:List LV}(h:aO (x::xs)=true):x.pure=true/\aO xs=true:=by simpa[aO]using h
mutual
theorem aH.lS(hz:∀id,Z id->Z' id)(hf:∀id,Z id->w'.heap[id]?=w.heap[id]?):
  ∀(lv:LV) (cs:List Value),lv.pure=true->aH Z μ w lv cs->aH Z' bE w' lv cs
 | .any,_,_,h=>by simpa[aH]using h
 | .v x,cs,_,h=>by simpa[aH]using h
 | .list sz l,cs,hp,h=>by
   simp only[aH]at h ⊢;obtain⟨a,len,cap,h1,h2,h3,h4,h9⟩:=h;refine⟨a,len,cap,h1,h2,h3,?_,h9⟩;rcases h4 with h4|⟨blk,off,c,T,fz,part,rest,e1,e2,e3,e4,e5⟩
   ·exact .inl h4
   exact .inr ⟨blk,off,c,T,fz,part,rest,e1,hz _ e2,(hf _ e2).trans e3,e4,aT.lS hz hf sz l part (by simpa[LV.pure]using hp) e5⟩
 | .agg l,cs,hp,h=>by
   simp only[aH]at h ⊢;exact cP.lS hz hf l cs (by simpa[LV.pure]using hp) h
 | .ref b sz off len,cs,hp,_=>by simp[LV.pure]at hp
 | .lj b sz off len cap,cs,hp,_=>by simp[LV.pure]at hp
 | .aB b sz i o,cs,hp,_=>by simp[LV.pure]at hp
 | .cx c,cs,hp,h=>by
   simp only[aH]at h ⊢;obtain⟨blk,off,cc,T,fz,part,rest,h1,h2,h3,h4,h5,h6,h7⟩:=h;exact⟨blk,off,cc,T,fz,part,rest,h1,hz _ h2,(hf _ h2).trans h3,h4,h5,aH.lS hz hf c part (by simpa[LV.pure]using hp) h6,h7⟩
 | .dT f cap,cs,hp,h=>by
   simp only[aH]at h ⊢;obtain⟨vs,h1,h2,h3⟩:=h;exact⟨vs,h1,aT.lS hz hf 1 cap vs.toList (by simpa[LV.pure]using hp) h2,h3⟩
 | .aY _,_,_,h=>by simp[aH]at h
theorem aT.lS(hz:∀id,Z id->Z' id)(hf:∀id,Z id->w'.heap[id]?=w.heap[id]?)(sz:Nat):
  ∀(l:List LV) (cs:List Value),aO l=true->aT Z μ w sz l cs->aT Z' bE w' sz l cs
 | [],cs,_,h=>by simpa[aT]using h
 |x::xs,cs,hp,h=>by
   simp only[aT]at h ⊢;obtain⟨c1,c2,h1,h2,h3,h4⟩:=h;exact⟨c1,c2,h1,h2,aH.lS hz hf x c1 (pure_cons hp).1 h3,aT.lS hz hf sz xs c2 (pure_cons hp).2 h4⟩
theorem cP.lS(hz:∀id,Z id->Z' id)(hf:∀id,Z id->w'.heap[id]?=w.heap[id]?):
  ∀(l:List LV) (cs:List Value),aO l=true->cP Z μ w l cs->cP Z' bE w' l cs
 | [],cs,_,h=>by simpa[cP]using h
 |x::xs,cs,hp,h=>by
   simp only[cP]at h ⊢;obtain⟨c1,c2,h1,h2,h3,h4⟩:=h;exact⟨c1,c2,h1,h2,aH.lS hz hf x c1 (pure_cons hp).1 h3,cP.lS hz hf xs c2 (pure_cons hp).2 h4⟩
end
theorem g8.mono(hz:∀id,Z id->Z' id)(hm:∀b id,μ b=some id->bE b=some id)(hf:Frame Z μ w w'){lv:LV}{v:Value}
  (h:g8 Z μ w lv v):g8 Z' bE w' lv v :=
 ⟨fun e=>let ⟨cs,h1,h2⟩:=h.1 e;⟨cs,h1,aH.mono hz hm hf _ _ h2⟩,fun e=>aH.mono hz hm hf _ _ (h.2 e)⟩
theorem il.mono(hz:∀id,Z id->Z' id)(hm:∀b id,μ b=some id->bE b=some id)(hf:Frame Z μ w w'):
  ∀(l:List LV) (vs:List Value),il Z μ w l vs->il Z' bE w' l vs
 | [],_,h=>h
 |_::xs,_,⟨v,l7,h1,h2,h3⟩=>⟨v,l7,h1,h2.mono hz hm hf,il.mono hz hm hf xs l7 h3⟩
theorem bJ.mono(hz:∀id,Z id->Z' id)(hm:∀b id,μ b=some id->bE b=some id)(hf:Frame Z μ w w'){lv:LV}{v:Value}
  (h:bJ Z μ w lv v):bJ Z' bE w' lv v:=by
 cases lv with
 |aY l=>obtain⟨vs,h1,h2⟩:=h;exact⟨vs,h1,h2.mono hz hm hf⟩
 |any=>trivial
 |_=>exact g8.mono hz hm hf h
theorem g8.lS(hz:∀id,Z id->Z' id)(hf:∀id,Z id->w'.heap[id]?=w.heap[id]?){lv:LV}{v:Value}(hp:lv.pure=true)
  (h:g8 Z μ w lv v):g8 Z' bE w' lv v :=
 ⟨fun e=>let ⟨cs,h1,h2⟩:=h.1 e;⟨cs,h1,aH.lS hz hf _ _ hp h2⟩,fun e=>aH.lS hz hf _ _ hp (h.2 e)⟩
theorem bJ.xO{lv:LV}{v:Value}(hn:∀l,lv≠.aY l)(h:g8 Z μ w lv v):bJ Z μ w lv v:=by
 cases lv with
 |aY l=>exact absurd rfl (hn l)
 |any=>trivial
 |_=>exact h
theorem bJ.to1{lv:LV}{v:Value}(hn:∀l,lv≠.aY l)(ha:lv≠.any)(h:bJ Z μ w lv v):g8 Z μ w lv v:=by
 cases lv with
 |aY l=>exact absurd rfl (hn l)
 |any=>exact absurd rfl ha
 |_=>exact h
theorem LV.fJ{lv:LV}(hp:lv.pure=true):lv≠.any:=by
 rintro rfl;simp[LV.pure]at hp
theorem LV.fh{lv:LV}(hp:lv.pure=true):∀l,lv≠.aY l:=by
 rintro l rfl;simp[LV.pure]at hp
theorem aT.length{sz:Nat}:∀(l:List LV) (cs:List Value),aT Z μ w sz l cs->cs.length=l.length*sz
 | [],cs,h=>by simp only[aT]at h;simp[h]
 |x::xs,cs,h=>by
   simp only[aT]at h;obtain⟨c1,c2,rfl,h2,_,h4⟩:=h;have:=aT.length xs c2 h4;simp only[jx,dR,iV,Nat.one_mul];omega
theorem cP.length:∀(l:List LV) (cs:List Value),cP Z μ w l cs->cs.length=dg l
 | [],cs,h=>by simp only[cP]at h;simp[h,dg]
 |x::xs,cs,h=>by
   simp only[cP]at h;obtain⟨c1,c2,rfl,h2,_,h4⟩:=h;have:=cP.length xs c2 h4;simp only[jx,dg];omega
theorem aT.get{sz:Nat}:∀(l:List LV) (cs:List Value) (i:Nat) (x:LV),aT Z μ w sz l cs->l[i]?=some x ->
  ∃pre ch post,cs=pre++(ch++post)/\pre.length=i*sz/\ch.length=sz/\aH Z μ w x ch /\
   ∀y sP,aH Z μ w y sP->sP.length=sz->aT Z μ w sz (l.set i y) (pre++(sP++post))
 | [],_,_,_,_,h=>by simp at h
 |a::xs,cs,0,x,h,hi=>by
   simp only[aT]at h;obtain⟨c1,c2,rfl,h2,h3,h4⟩:=h;simp only[o8,gj]at hi;subst hi;exact⟨[],c1,c2,by simp,by simp,h2,h3,fun y sP hy hl=>by simpa[aT]using ⟨sP,c2,rfl,hl,hy,h4⟩⟩
 |a::xs,cs,i+1,x,h,hi=>by
   simp only[aT]at h;obtain⟨c1,c2,rfl,h2,h3,h4⟩:=h;obtain⟨pre,ch,post,rfl,e2,e3,e4,e5⟩:=aT.get xs c2 i x h4 (by simpa using hi);refine⟨c1++pre,ch,post,by simp,by simp[h2,e2,iV];omega,e3,e4,fun y sP hy hl=>?_⟩;have:=e5 y sP hy hl;simp only[du,aT];exact⟨c1,pre++(sP++post),by simp,h2,h3,this⟩
theorem cP.get:∀(l:List LV) (cs:List Value) (i:Nat) (x:LV),cP Z μ w l cs->l[i]?=some x ->
  ∃pre ch post,cs=pre++(ch++post)/\pre.length=dg (l.take i)/\ch.length=x.aq/\aH Z μ w x ch /\
   ∀y sP,aH Z μ w y sP->sP.length=y.aq->cP Z μ w (l.set i y) (pre++(sP++post))
 | [],_,_,_,_,h=>by simp at h
 |a::xs,cs,0,x,h,hi=>by
   simp only[cP]at h;obtain⟨c1,c2,rfl,h2,h3,h4⟩:=h;simp only[o8,gj]at hi;subst hi;exact⟨[],c1,c2,by simp,by simp[dg],h2,h3,fun y sP hy hl=>by simpa[cP]using ⟨sP,c2,rfl,hl,hy,h4⟩⟩
 |a::xs,cs,i+1,x,h,hi=>by
   simp only[cP]at h;obtain⟨c1,c2,rfl,h2,h3,h4⟩:=h;obtain⟨pre,ch,post,rfl,e2,e3,e4,e5⟩:=cP.get xs c2 i x h4 (by simpa using hi);refine⟨c1++pre,ch,post,by simp,by simp[h2,e2,dg],e3,e4,fun y sP hy hl=>?_⟩;have:=e5 y sP hy hl;simp only[du,cP];exact⟨c1,pre++(sP++post),by simp,h2,h3,this⟩
theorem aT.append{sz:Nat}:∀(l m:List LV) (cs ds:List Value),aT Z μ w sz l cs->aT Z μ w sz m ds->aT Z μ w sz (l++m) (cs++ds)
 | [],m,cs,ds,h,h'=>by simp only[aT]at h;simpa[h]using h'
 |x::xs,m,cs,ds,h,h'=>by
   simp only[aT]at h;obtain⟨c1,c2,rfl,h2,h3,h4⟩:=h;have:=aT.append xs m c2 ds h4 h';simp only[atv,aT];exact⟨c1,c2++ds,by simp,h2,h3,this⟩
theorem aT.split{sz:Nat}:∀(l m:List LV) (cs:List Value),aT Z μ w sz (l++m) cs->∃c1 c2,cs=c1++c2/\aT Z μ w sz l c1/\aT Z μ w sz m c2
 | [],m,cs,h=>⟨[],cs,rfl,by simp[aT],h⟩
 |x::xs,m,cs,h=>by
   simp only[atv,aT]at h;obtain⟨c1,c2,rfl,h2,h3,h4⟩:=h;obtain⟨d1,d2,rfl,e1,e2⟩:=aT.split xs m c2 h4;exact⟨c1++d1,d2,by simp,by simpa[aT]using ⟨c1,d1,rfl,h2,h3,e1⟩,e2⟩
theorem aT.replicate{sz:Nat}{x:LV}{ch:List Value}(h:aH Z μ w x ch)(hl:ch.length=sz):∀n,aT Z μ w sz (av n x) (av n ch).flatten
 |0=>by simp[aT]
 |n+1=>by
   simp only[List.replicate_succ,aT,List.flatten_cons];exact⟨ch,_,rfl,hl,h,aT.replicate h hl n⟩
end
mutual
def LV.at:LV->Nat->Nat->Bool->Option LV
 | .agg l,o,n,ag=>if o=0/\dg l=n/\ag=true then some (.agg l)else wT l o n ag
 | .any,_,_,_=>none
 |x,o,n,ag=>if o=0/\n=1/\ag=false then some x else none
def wT:List LV->Nat->Nat->Bool->Option LV
 | [],_,_,_=>none
 |x::xs,o,n,ag=>if o<x.aq then x.at o n ag else wT xs (o-x.aq) n ag
end
mutual
def LV.put:LV->Nat->LV->Option LV
 | .agg l,o,y=>if o=0/\dg l=y.aq/\y.isAgg=true then some y else(aaT l o y).map .agg
 |_,o,y=>if o=0/\y.aq=1/\y.isAgg=false then some y else none
def aaT:List LV->Nat->LV->Option (List LV)
 | [],_,_=>none
 |x::xs,o,y=>if o<x.aq then(x.put o y).map (·::xs)else(aaT xs (o-x.aq) y).map (x::·)
end
section
variable {Z:Nat->Prop} {μ:Nat->Option Nat} {w:World}
mutual
theorem LV.amY:∀(x:LV) (o n:Nat) (ag:Bool) (y:LV) (cs:List Value),x.at o n ag=some y->aH Z μ w x cs->cs.length=x.aq ->
  ∃pre ch post,cs=pre++(ch++post)/\pre.length=o/\ch.length=n/\aH Z μ w y ch/\y.isAgg=ag/\y.aq=n/\y≠.any/\∀l,y≠.aY l
 | .agg l,o,n,ag,y,cs,h,hr,hl=>by
   simp only[LV.at]at h;split at h
   ·rename_i hc;obtain⟨rfl,h2,rfl⟩:=hc;simp only[gj]at h;subst h;exact⟨[],cs,[],by simp,rfl,by simpa[LV.aq,h2]using hl,hr,rfl,by simp[LV.aq,h2],by simp,by simp⟩
   exact avG l o n ag y cs h (by simpa[aH]using hr)
 | .any,_,_,_,_,_,h,_,_=>by simp[LV.at]at h
 | .v x,o,n,ag,y,cs,h,hr,hl=>by
   simp only[LV.at]at h;split at h
   ·rename_i hc;obtain⟨rfl,rfl,rfl⟩:=hc;simp only[gj]at h;subst h;exact adA
   simp at h
 | .list sz l,o,n,ag,y,cs,h,hr,hl=>by
   simp only[LV.at]at h;split at h
   ·rename_i hc;obtain⟨rfl,rfl,rfl⟩:=hc;simp only[gj]at h;subst h;exact adA
   simp at h
 | .ref b sz off len,o,n,ag,y,cs,h,hr,hl=>by
   simp only[LV.at]at h;split at h
   ·rename_i hc;obtain⟨rfl,rfl,rfl⟩:=hc;simp only[gj]at h;subst h;exact adA
   simp at h
 | .lj b sz off len cap,o,n,ag,y,cs,h,hr,hl=>by
   simp only[LV.at]at h;split at h
   ·rename_i hc;obtain⟨rfl,rfl,rfl⟩:=hc;simp only[gj]at h;subst h;exact adA
   simp at h
 | .aB b sz i o',o,n,ag,y,cs,h,hr,hl=>by
   simp only[LV.at]at h;split at h
   ·rename_i hc;obtain⟨rfl,rfl,rfl⟩:=hc;simp only[gj]at h;subst h;exact adA
   simp at h
 | .cx c,o,n,ag,y,cs,h,hr,hl=>by
   simp only[LV.at]at h;split at h
   ·rename_i hc;obtain⟨rfl,rfl,rfl⟩:=hc;simp only[gj]at h;subst h;exact adA
   simp at h
 | .dT f cap,o,n,ag,y,cs,h,hr,hl=>by
   simp only[LV.at]at h;split at h
   ·rename_i hc;obtain⟨rfl,rfl,rfl⟩:=hc;simp only[gj]at h;subst h;exact adA
   simp at h
 | .aY _,_,_,_,_,_,_,hr,_=>by simp[aH]at hr
theorem avG:∀(l:List LV) (o n:Nat) (ag:Bool) (y:LV) (cs:List Value),wT l o n ag=some y->cP Z μ w l cs ->
  ∃pre ch post,cs=pre++(ch++post)/\pre.length=o/\ch.length=n/\aH Z μ w y ch/\y.isAgg=ag/\y.aq=n/\y≠.any/\∀l,y≠.aY l
 | [],_,_,_,_,_,h,_=>by simp[wT]at h
 |x::xs,o,n,ag,y,cs,h,hr=>by
   simp only[cP]at hr;obtain⟨c1,c2,rfl,h2,h3,h4⟩:=hr;simp only[wT]at h;split at h
   ·obtain⟨pre,ch,post,rfl,e2,e3,e4⟩:=LV.amY x o n ag y c1 h h3 h2;exact⟨pre,ch,post++c2,by simp,e2,e3,e4⟩
   obtain⟨pre,ch,post,rfl,e2,e3,e4⟩:=avG xs (o-x.aq) n ag y c2 h h4;exact⟨c1++pre,ch,post,by simp,by simp;omega,e3,e4⟩
end
mutual
theorem LV.ax1(y:LV)(dh:List Value)(hy:aH Z μ w y dh)(hd:dh.length=y.aq):∀(x:LV) (o:Nat) (x':LV) (cs:List Value),x.put o y=some x' ->
  aH Z μ w x cs->cs.length=x.aq->∃pre ch post,cs=pre++(ch++post)/\pre.length=o/\ch.length=dh.length/\aH Z μ w x' (pre++(dh++post))/\x'.aq=x.aq
 | .agg l,o,x',cs,h,hr,hl=>by
   simp only[LV.put]at h;split at h
   ·rename_i hc;obtain⟨rfl,h2,_⟩:=hc;simp only[gj]at h;subst h;exact⟨[],cs,[],by simp,rfl,by rw[hl,hd];simp[LV.aq,h2],by simpa using hy,by simp[LV.aq,h2]⟩
   simp only[abz]at h;obtain⟨l',h1,rfl⟩:=h;obtain⟨pre,ch,post,e1,e2,e3,e4,e5⟩:=av4 y dh hy hd l o l' cs h1 (by simpa[aH]using hr);exact⟨pre,ch,post,e1,e2,e3,by simpa[aH]using e4,by simpa[LV.aq]using e5⟩
 | .any,o,x',cs,h,hr,hl=>by
   simp only[LV.put]at h;split at h
   ·rename_i hc;obtain⟨rfl,h2,_⟩:=hc;simp only[gj]at h;subst h;exact acy
   simp at h
 | .v x,o,x',cs,h,hr,hl=>by
   simp only[LV.put]at h;split at h
   ·rename_i hc;obtain⟨rfl,h2,_⟩:=hc;simp only[gj]at h;subst h;exact acy
   simp at h
 | .list sz l,o,x',cs,h,hr,hl=>by
   simp only[LV.put]at h;split at h
   ·rename_i hc;obtain⟨rfl,h2,_⟩:=hc;simp only[gj]at h;subst h;exact acy
   simp at h
 | .ref b sz off len,o,x',cs,h,hr,hl=>by
   simp only[LV.put]at h;split at h
   ·rename_i hc;obtain⟨rfl,h2,_⟩:=hc;simp only[gj]at h;subst h;exact acy
   simp at h
 | .lj b sz off len cap,o,x',cs,h,hr,hl=>by
   simp only[LV.put]at h;split at h
   ·rename_i hc;obtain⟨rfl,h2,_⟩:=hc;simp only[gj]at h;subst h;exact acy
   simp at h
 | .aB b sz i o',o,x',cs,h,hr,hl=>by
   simp only[LV.put]at h;split at h
   ·rename_i hc;obtain⟨rfl,h2,_⟩:=hc;simp only[gj]at h;subst h;exact acy
   simp at h
 | .cx c,o,x',cs,h,hr,hl=>by
   simp only[LV.put]at h;split at h
   ·rename_i hc;obtain⟨rfl,h2,_⟩:=hc;simp only[gj]at h;subst h;exact acy
   simp at h
 | .dT f cap,o,x',cs,h,hr,hl=>by
   simp only[LV.put]at h;split at h
   ·rename_i hc;obtain⟨rfl,h2,_⟩:=hc;simp only[gj]at h;subst h;exact acy
   simp at h
 | .aY _,_,_,_,_,hr,_=>by simp[aH]at hr
theorem av4(y:LV)(dh:List Value)(hy:aH Z μ w y dh)(hd:dh.length=y.aq):∀(l:List LV) (o:Nat) (l':List LV) (cs:List Value),aaT l o y=some l' ->
  cP Z μ w l cs->∃pre ch post,cs=pre++(ch++post)/\pre.length=o/\ch.length=dh.length/\cP Z μ w l' (pre++(dh++post))/\dg l'=dg l
 | [],_,_,_,h,_=>by simp[aaT]at h
 |x::xs,o,l',cs,h,hr=>by
   simp only[cP]at hr;obtain⟨c1,c2,rfl,h2,h3,h4⟩:=hr;simp only[aaT]at h;split at h
   ·simp only[abz]at h;obtain⟨x',h1,rfl⟩:=h;obtain⟨pre,ch,post,rfl,e2,e3,e4,e5⟩:=LV.ax1 y dh hy hd x o x' c1 h1 h3 h2;refine⟨pre,ch,post++c2,by simp,e2,e3,?_,by simp[dg,e5]⟩;simp only[cP];exact⟨pre++(dh++post),c2,by simp,by simp at h2 ⊢;omega,e4,h4⟩
   simp only[abz]at h;obtain⟨xs',h1,rfl⟩:=h;obtain⟨pre,ch,post,rfl,e2,e3,e4,e5⟩:=av4 y dh hy hd xs (o-x.aq) xs' c2 h1 h4;refine⟨c1++pre,ch,post,by simp,by simp;omega,e3,?_,by simp[dg,e5]⟩;simp only[cP];exact⟨c1,pre++(dh++post),by simp,h2,h3,e4⟩
end
theorem LV.ajW{x:LV}(h:x.isAgg=false):x.aq=1:=by cases x<;>simp_all[LV.isAgg,LV.aq]
mutual
theorem aH.one:∀(lv:LV) (cs:List Value),aH Z μ w lv cs->∀u∈cs,u.oneCell'=true
 | .any,_,h=>by simpa[aH]using h
 | .v x,cs,h=>by simp only[aH]at h;obtain⟨rfl,h⟩:=h;simpa using h
 | .list sz l,cs,h=>by simp only[aH]at h;obtain⟨a,len,cap,rfl,_⟩:=h;simp[Value.oneCell']
 | .agg l,cs,h=>by simp only[aH]at h;exact cP.one l cs h
 | .ref b sz off len,cs,h=>by simp only[aH]at h;rcases h with⟨rfl,_⟩|⟨id,cap,c,T,fz,rfl,_⟩<;>simp[Value.oneCell']
 | .lj b sz off len cap,cs,h=>by simp only[aH]at h;obtain⟨id,c,T,fz,rfl,_⟩:=h;simp[Value.oneCell']
 | .aB b sz i o,cs,h=>by simp only[aH]at h;obtain⟨id,rfl,_⟩:=h;simp[Value.oneCell']
 | .cx c,cs,h=>by simp only[aH]at h;obtain⟨blk,off,cc,T,fz,part,rest,rfl,_⟩:=h;simp[Value.oneCell']
 | .dT f cap,cs,h=>by simp only[aH]at h;obtain⟨vs,rfl,_⟩:=h;simp[Value.oneCell']
 | .aY _,_,h=>by simp[aH]at h
theorem cP.one:∀(l:List LV) (cs:List Value),cP Z μ w l cs->∀u∈cs,u.oneCell'=true
 | [],cs,h=>by simp only[cP]at h;simp[h]
 |x::xs,cs,h=>by
   simp only[cP]at h;obtain⟨c1,c2,rfl,h2,h3,h4⟩:=h;intro u hu;rcases List.mem_append.1 hu with hu|hu
   ·exact aH.one x c1 h3 u hu
   exact cP.one xs c2 h4 u hu
end
theorem aH.len{lv:LV}{cs:List Value}(h:aH Z μ w lv cs)(aZ:lv≠.any):cs.length=lv.aq:=by
 cases lv with
 |any=>exact absurd rfl aZ
 |agg l=>simp only[aH]at h;exact cP.length l cs h
 |v x=>simp only[aH]at h;simp[h.1,LV.aq]
 |list sz l=>simp only[aH]at h;obtain⟨a,len,cap,rfl,_⟩:=h;rfl
 |ref b sz off len=>simp only[aH]at h;rcases h with⟨rfl,_⟩|⟨id,cap,c,T,fz,rfl,_⟩<;>rfl
 |lj b sz off len cap=>simp only[aH]at h;obtain⟨id,c,T,fz,rfl,_⟩:=h;rfl
 |aB b sz i o=>simp only[aH]at h;obtain⟨id,rfl,_⟩:=h;rfl
 |cx c=>simp only[aH]at h;obtain⟨blk,off,cc,T,fz,part,rest,rfl,_⟩:=h;rfl
 |dT f cap=>simp only[aH]at h;obtain⟨vs,rfl,_⟩:=h;rfl
 |aY l=>simp[aH]at h
theorem g8.cells{lv:LV}{v:Value}(h:g8 Z μ w lv v)(aZ:lv≠.any):aH Z μ w lv v.cells.toList/\v.cells.size=lv.aq /\
  (∀u∈v.cells.toList,u.oneCell'=true)/\((lv.isAgg=true/\v=.agg v.cells)\/(lv.isAgg=false/\v.cells=#[v]/\v.oneCell'=true)):=by
 cases ha:lv.isAgg with
 |true =>
  obtain⟨cs,rfl,h2⟩:=h.1 ha;refine⟨h2,?_,aH.one _ _ h2,.inl ⟨rfl,rfl⟩⟩;have:=aH.len h2 aZ;simpa[Value.cells]using this
 |false =>
  have h2:=h.2 ha;have h3:=aH.one _ _ h2 v aE;have hc:v.cells=#[v]:=by cases v<;>simp_all[Value.cells,Value.oneCell']
  rw[hc];exact⟨h2,by simp[LV.ajW ha],by simpa using h3,.inr ⟨rfl,rfl,h3⟩⟩
theorem g8.asM{lv:LV}{cs:List Value}(h:aH Z μ w lv cs)(aZ:lv≠.any):g8 Z μ w lv (if lv.isAgg then .agg cs.toArray else cs.headD default):=by
 refine⟨fun e=>⟨cs.toArray,by simp[e],h⟩,fun e=>?_⟩;have hl:=aH.len h aZ;rw[LV.ajW e]at hl
 match cs,hl with
 | [x],_=>simpa[e]using h
end
end Go.Lg
namespace Go.Lg
structure aV where
 sz:Nat
 vals:List LV
 mt:Bool
abbrev cd:=Nat->Option aV
structure XS where
 x:Nat->Prop
 y:Nat->Prop
def XS.any(X:XS)(id:Nat):Prop:=X.x id\/X.y id
instance:CoeFun XS (fun _=>Nat->Prop):=⟨XS.any⟩
def XS.no:XS:=⟨fun _=>False,fun _=>False⟩
def XS.one(i0:Nat):XS:=⟨fun k=>k=i0,fun _=>False⟩
theorem XS.ag5{id:Nat}:¬XS.no.any id:=fun h=>h.elim (fun e=>e) (fun e=>e)
theorem XS.aCH{i0 id:Nat}(h:(XS.one i0).any id):id=i0:=h.elim (fun e=>e) False.elim
structure Kept (X:XS) (W w:World):Prop where
 os:w.os=W.os
 tape:w.tape=W.tape
 output:w.output=W.output
 size:W.heap.size<=w.heap.size
 block:∀k,k<W.heap.size->¬X k->w.heap[k]?=W.heap[k]?
 yl:∀k,X k->∀c T fz,W.heap[k]?=some (.cells c T fz)->∃c',w.heap[k]?=some (.cells c' T fz)/\c'.size=c.size
theorem Kept.refl(X:XS)(W:World):Kept X W W:=⟨rfl,rfl,rfl,bF _,fun _ _ _=>rfl,fun _ _ c _ _ h=>⟨c,h,rfl⟩⟩
theorem Kept.below{W w:World}(h:Kept XS.no W w):RowKit.Below W.heap.size W w :=
 ⟨h.os,h.tape,h.output,h.size,fun k hk=>h.block k hk XS.ag5⟩
def xd(Z:Nat->Prop)(μ:Nat->Option Nat)(w:World)(blk:aV)(id:Nat):Prop :=
 ∃c T part rest,w.heap[id]?=some (.cells c T (0,0))/\c.toList=part++rest/\aT Z μ w blk.sz blk.vals part
structure Core (W:World) (X:XS) (Z0:Nat->Prop) (μ:Nat->Option Nat) (Z:Nat->Prop) (H:cd) (w:World):Prop where
 cV:Kept X W w
 m9:∀id,Z id->id<w.heap.size
 kU:∀id,Z0 id->Z id
 nc:∀id,Z id->Z0 id\/W.heap.size<=id\/X.y id
 inj:∀b b' id,μ b=some id->μ b'=some id->b=b'
 own:∀b id,μ b=some id->W.heap.size<=id\/X id
 x0:∀b id,μ b=some id->X.x id->b=0
 pY:∀id,X id->id<W.heap.size
 x1:∀id,X.x id->μ 0=some id
 ku:∀b id blk,μ b=some id->H b=some blk->blk.mt=true->¬Z id
 b9:∀b id blk,μ b=some id->H b=some blk->blk.mt=false->Z id
 heap:∀b id,μ b=some id->∃blk,H b=some blk/\xd Z μ w blk id
def bS(P:Program)(T:TypeId)(n:Nat)(ag:Bool):Prop :=
 (P.info? T).map (·.size)=some n/\∃d,P.underlying T=some d/\d.isRow=ag
def tJ(P:Program):Nat->List Field->List (Nat×Bool)->Prop
 |_,[],[]=>True
 |off,f::fs,(n,ag)::r=>f.offset=off/\bS P f.type n ag/\tJ P (off+n) fs r
 |_,_,_=>False
def mP(P:Program)(T:TypeId)(lay:List (Nat×Bool)):Prop :=
 ∃fields,P.underlying T=some (.struct fields)/\tJ P 0 fields.toList lay/\∀n∈lay,0<n.1
def lay(x:LV):Nat×Bool:=(x.aq,x.isAgg)
section
variable {P:Program} {Z:Nat->Prop} {μ:Nat->Option Nat} {w:World}
theorem afu{blk off:Nat}{c:Array Value}{T:TypeId}{fz:Nat×Nat}{part rest:List Value}
  (h:w.heap[blk]?=some (.cells c T fz)) (hd:c.toList.drop off=part++rest):w.rangeAt blk off part:=by
 intro j v hj;rw[cell_of_row w blk (off+j) c T fz h];have h1:(c.toList.drop off)[j]?=some v:=by
  rw[hd,List.getElem?_append_left (qi.1 hj).1];exact hj
 rw[List.getElem?_drop]at h1;simpa using h1
theorem awH{T:TypeId}{y:LV}{blk off:Nat}{c:Array Value}{U:TypeId}{fz:Nat×Nat}{part rest:List Value}
  (ht:bS P T y.aq y.isAgg) (h:w.heap[blk]?=some (.cells c U fz)) (hd:c.toList.drop off=part++rest)
  (hy:aH Z μ w y part) (aZ:y≠.any) :
  ∃v,(Instr.loadAt T (.pointer (some ⟨blk,off,none⟩))).run P w=.ok v w/\g8 Z μ w y v:=by
 have hr:=afu h hd;have hl:=aH.len hy aZ;obtain⟨hi,d,hu,ir⟩:=ht;refine⟨_,?_,g8.asM hy aZ⟩
 cases ha:y.isAgg with
 |true =>
  have:=run_loadAt_mid (P:=P) w blk off T part d hr hu (by rw[ir,ha]) (by rw[hi,hl]);simpa using this
 |false =>
  rw[LV.ajW ha]at hl
  match part,hl,hr with
  | [x],_,hr =>
   have hx:=hr 0 x rfl;have hag:(isAgg T).run P w=.ok false w:=by
    unfold isAgg;rw[Sem.run_bind,run_underlying hu w];rw[ha]at ir
    cases d<;>simp_all[TypeDesc.isRow]
   simp[Instr.loadAt,Instr.sureAddr,loadVar,Sem.run_bind,hag,nW]at hx ⊢;simp[hx]
theorem aCZ:∀(fs:List Field) (ls:List LV) (off k:Nat) (f:Field) (x:LV),tJ P off fs (ls.map lay)->fs[k]?=some f->ls[k]?=some x ->
  f.offset=off+dg (ls.take k)/\bS P f.type x.aq x.isAgg
 | [],_,_,_,_,_,_,h,_=>by simp at h
 |_::_,[],_,_,_,_,_,_,h=>by simp at h
 |f::fs,y::ys,off,0,g,x,h,h1,h2=>by
   simp only[nK,lay,tJ]at h;simp only[o8,gj]at h1 h2;subst h1 h2;exact⟨by simp[dg,h.1],h.2.1⟩
 |f::fs,y::ys,off,k+1,g,x,h,h1,h2=>by
   simp only[nK,lay,tJ]at h;have:=aCZ fs ys (off+y.aq) k g x h.2.2 (by simpa using h1) (by simpa using h2);refine⟨?_,this.2⟩;rw[this.1];simp[dg];omega
theorem apN:∀(fs:List Field) (ls:List (Nat×Bool)) (off:Nat),tJ P off fs ls->fs.length=ls.length
 | [],[],_,_=>rfl
 | [],_::_,_,h=>by simp[tJ]at h
 |_::_,[],_,h=>by simp[tJ]at h
 |f::fs,(n,ag)::r,off,h=>by
   simp only[tJ]at h;simp[apN fs r _ h.2.2]
theorem aOL{T:TypeId}{n:Nat}{ag:Bool}(ht:bS P T n ag):(isAgg T).run P w=.ok ag w:=by
 obtain⟨hi,d,hd,rfl⟩:=ht;unfold isAgg;rw[Sem.run_bind,run_underlying hd w]
 cases d<;>simp[TypeDesc.isRow]
theorem run_sizeOf{T:TypeId}{n:Nat}{ag:Bool}(ht:bS P T n ag):(sizeOf T).run P w=.ok n w:=by
 obtain⟨hi,_⟩:=ht
 cases hq:P.info? T with
 |none=>simp[hq]at hi
 |some i =>
  simp only[hq,uh,gj]at hi;subst hi;simp[sizeOf,typeInfo,hq]
theorem aza{T:TypeId}{x:LV}(ht:bS P T x.aq x.isAgg){cs:Array Value}{pre ch post:List Value}(e1:cs.toList=pre++(ch++post))
  (h:aH Z μ w x ch) (aZ:x≠.any):∃u,(part T cs pre.length).run P w=.ok u w/\g8 Z μ w x u:=by
 have e3:=aH.len h aZ;have hcs:cs=(pre++(ch++post)).toArray:=by apply y6;simp[e1]
 refine⟨_,?_,g8.asM h aZ⟩;unfold part;rw[Sem.run_bind,aOL ht]
 cases ha:x.isAgg with
 |true =>
  simp only[Result.andThen_ok,if_true,Sem.run_bind,run_sizeOf ht,Sem.run_pure];congr 2;apply y6;rw[hcs,<-e3];simp
 |false =>
  rw[LV.ajW ha]at e3
  match ch,e3 with
  | [y],_ =>
   have:cs[pre.length]?=some y:=by rw[hcs];simp
   simp[this]
theorem aFw{T:TypeId}{fs:List LV}{k:Nat}{x:LV}{v:Value}(ht:mP P T (fs.map lay))(hx:fs[k]?=some x)(aZ:x≠.any)
  (h:g8 Z μ w (.agg fs) v):∃u,(Instr.field T v k).run P w=.ok u w/\g8 Z μ w x u:=by
 obtain⟨fields,hu,hl,_⟩:=ht;obtain⟨cs,rfl,hc⟩:=h.1 rfl;simp only[aH]at hc;obtain⟨pre,ch,post,e1,e2,e3,e4,_⟩:=cP.get fs cs.toList k x hc hx;have hk:k<fields.toList.length:=by
  rw[apN _ _ _ hl,cC];exact(qi.1 hx).1
 obtain⟨f,hfk⟩:∃f,fields.toList[k]?=some f:=⟨_,ck hk⟩;obtain⟨g1,hty⟩:=aCZ fields.toList fs 0 k f x hl hfk hx;have aqp:fields[k]?=some f:=by rw[<-afy];exact hfk
 obtain⟨u,wG,hu3⟩:=aza (T:=f.type) hty e1 e4 aZ;refine⟨u,?_,hu3⟩;have:f.offset=pre.length:=J;simp only[Instr.field,Sem.run_bind,run_underlying hu,Result.andThen_ok,aqp,asAgg,Sem.run_pure,this,wG]
def pK:List (Nat×Bool)->Nat
 | []=>0
 |x::xs=>x.1+pK xs
theorem aku:∀(fs:List LV) (k:Nat),pK ((fs.map lay).take k)=dg (fs.take k)
 | [],k=>by simp[pK,dg]
 |x::xs,0=>by simp[pK,dg]
 |x::xs,k+1=>by simp[pK,dg,lay,<-aku xs k]
theorem auo:∀(fs:List Field) (ls:List (Nat×Bool)) (off k:Nat) (f:Field) (x:Nat×Bool),tJ P off fs ls->fs[k]?=some f->ls[k]?=some x ->
  f.offset=off+pK (ls.take k)/\bS P f.type x.1 x.2
 | [],_,_,_,_,_,_,h,_=>by simp at h
 |_::_,[],_,_,_,_,_,_,h=>by simp at h
 |f::fs,(n,ag)::ys,off,0,g,x,h,h1,h2=>by
   simp only[tJ]at h;simp only[o8,gj]at h1 h2;subst h1 h2;exact⟨by simp[pK,h.1],h.2.1⟩
 |f::fs,(n,ag)::ys,off,k+1,g,x,h,h1,h2=>by
   simp only[tJ]at h;have:=auo fs ys (off+n) k g x h.2.2 (by simpa using h1) (by simpa using h2);refine⟨?_,this.2⟩;rw[this.1];simp[pK];omega
theorem azq{T:TypeId}{ls:List (Nat×Bool)}{k:Nat}(ht:mP P T ls)(qD:k<ls.length)(b o:Nat):
  (Instr.fieldAt T (.pointer (some ⟨b,o,none⟩)) k).run P w=.ok (.pointer (some ⟨b,o+pK (ls.take k),none⟩)) w:=by
 obtain⟨fields,hu,hl,nt⟩:=ht;have hk:k<fields.toList.length:=by rw[apN _ _ _ hl];exact qD
 obtain⟨f,hfk⟩:∃f,fields.toList[k]?=some f:=⟨_,ck hk⟩;have hx:ls[k]?=some ls[k]:=ck qD;obtain⟨g1,hty⟩:=auo fields.toList ls 0 k f _ hl hfk hx;have aqp:fields[k]?=some f:=by rw[<-afy];exact hfk
 have hp:0<ls[k].1:=nt _ (vI hx);have aZ:¬ls[k].1=0:=J;simp only[Instr.fieldAt,Sem.run_bind,run_underlying hu,Result.andThen_ok,aqp,Instr.sureAddr,Sem.run_pure,fieldPlace,run_sizeOf hty,Sem.run_ite,if_neg aZ,g1,fZ,Addr.add_mid]
end
end Go.Lg
namespace Go.Lg
def eO(op:BinOp)(k:IntKind)(a b:Int):Option Value :=
 match op with
 | .add=>some (.int k (k.wrap (a+b)))
 | .sub=>some (.int k (k.wrap (a-b)))
 | .mul=>some (.int k (k.wrap (a*b)))
 | .quo=>if b=0 then none else some (.int k (k.wrap (a.tdiv b)))
 | .rem=>if b=0 then none else some (.int k (a.tmod b))
 | .and=>some (.int k (k.wrap (we k.bits a &&& we k.bits b).toNat))
 | .or=>some (.int k (k.wrap (we k.bits a ||| we k.bits b).toNat))
 | .eql=>some (.bool (a==b))
 | .neq=>some (.bool (a != b))
 | .lss=>some (.bool (a<b))
 | .leq=>some (.bool (a<=b))
 | .gtr=>some (.bool (a > b))
 | .geq=>some (.bool (a>=b))
 |_=>none
def rN(op:BinOp)(k:IntKind)(a b:Int):Option Value :=
 if b<0 then none else
 match op with
 | .shl=>some (.int k (k.wrap (a*2^min b.toNat k.bits)))
 | .shr=>some (.int k (a.fdiv (2^min b.toNat k.bits)))
 |_=>none
def dM(P:Program)(T:TypeId)(z:LV):Prop :=
 ∃i zv,P.info? T=some i/\i.zero=some zv/\z.pure=true/\∀(Z:Nat->Prop) (μ:Nat->Option Nat) (w:World),aH Z μ w z zv.cells.toList
def kP(zs:List LV)(ps:List (Nat×LV)):List LV:=ps.foldl (fun acc p=>acc.set p.1 p.2) zs
inductive aM (P:Program) (H:cd) (ρ:Operand->LV):Op->LV->Prop
 |move (x):aM P H ρ (.move x) (ρ x)
 |assign (x):aM P H ρ (.assign x) (ρ x)
 |pick {c x y t} (h:ρ c=.v (.bool t)):aM P H ρ (.pick c x y) (if t then ρ x else ρ y)
 |bin {op T x y U k a b r} (hx:ρ x=.v (.int k a)) (hy:ρ y=.v (.int k b)) (h:eO op k a b=some r):aM P H ρ (.binOp op T x y U) (.v r)
 |sh {op T x y U k k' a b r} (hx:ρ x=.v (.int k a)) (hy:ρ y=.v (.int k' b)) (h:rN op k a b=some r):aM P H ρ (.binOp op T x y U) (.v r)
 |beq {T x y U a b} (hx:ρ x=.v (.bool a)) (hy:ρ y=.v (.bool b)) (hT:P.underlying T=some .bool):aM P H ρ (.binOp .eql T x y U) (.v (.bool (a==b)))
 |bne {T x y U a b} (hx:ρ x=.v (.bool a)) (hy:ρ y=.v (.bool b)) (hT:P.underlying T=some .bool):aM P H ρ (.binOp .neq T x y U) (.v (.bool (!(a==b))))
 |not {T x a} (hx:ρ x=.v (.bool a)):aM P H ρ (.unOp .not T x) (.v (.bool !a))
 |neg {T x k a} (hx:ρ x=.v (.int k a)):aM P H ρ (.unOp .neg T x) (.v (.int k (k.wrap (0-a))))
 |conv {S D x k k' n d} (hS:P.underlying S=some d) (hD:P.underlying D=some (.int k)) (hx:ρ x=.v (.int k' n)):aM P H ρ (.convert S D x) (.v (.int k (k.wrap n)))
 |extract {t i l r} (ht:ρ t=.aY l) (hr:l[i]?=some r) (aZ:∀m,r≠.aY m):aM P H ρ (.extract t i) r
 |field {T x k fs r} (hx:ρ x=.agg fs) (hT:mP P T (fs.map lay)) (hr:fs[k]?=some r) (aZ:r.pure=true):aM P H ρ (.field T x k) r
 |aax {T p k fs r} (hp:ρ p=.cx (.agg fs)) (hT:mP P T (fs.map lay)) (hr:fs[k]?=some r):aM P H ρ (.fieldAddr T p k) (.cx r)
 |acW {T p k b sz i o ls} (hp:ρ p=.aB b sz i o) (hT:mP P T ls) (hk:k<ls.length):aM P H ρ (.fieldAddr T p k) (.aB b sz i (o+pK (ls.take k)))
 |abx {T p c} (hp:ρ p=.cx c) (hT:bS P T c.aq c.isAgg) (hc:c.pure=true):aM P H ρ (.load T p) c
 |fa {T p b sz i o blk x r n ag} (hp:ρ p=.aB b sz i o) (hb:H b=some blk) (hs:blk.sz=sz) (hi:blk.vals[i]?=some x) (hx:x.aq=sz) (hr:x.at o n ag=some r)
   (hT:bS P T n ag):aM P H ρ (.load T p) r
 |ahF {x b sz i o} (hx:ρ x=.aB b sz i o):aM P H ρ (.nilCheck x) (.aB b sz i o)
 |yj {T E x i n fs k m r sz ag} (hx:ρ x=.agg fs) (hT:P.underlying T=some (.array n E)) (hE:bS P E sz ag) (hf:fs.map lay=av n (sz,ag)) (hi:ρ i=.v (.int k m)) (h0:0<=m)
   (hr:fs[m.toNat]?=some r) (hp:r.pure=true):aM P H ρ (.index T x i) r
 |ado {T E x j n b sz i o k m es ag} (hx:ρ x=.aB b sz i o) (hT:P.underlying T=some (.array n E)) (hE:bS P E es ag) (hi:ρ j=.v (.int k m)) (h0:0<=m) (hm:m<n) :
   aM P H ρ (.indexAddr T x j) (.aB b sz i (o+m.toNat*es))
 |ac3 {T E x i n fs k m r sz ag} (hx:ρ x=.cx (.agg fs)) (hT:P.underlying T=some (.array n E)) (hE:bS P E sz ag) (hf:fs.map lay=av n (sz,ag)) (hi:ρ i=.v (.int k m)) (h0:0<=m)
   (hr:fs[m.toNat]?=some r):aM P H ρ (.indexAddr T x i) (.cx r)
 |aci {T E zs ps n sz ag} (hT:P.underlying T=some (.array n E)) (hE:bS P E sz ag) (hf:∀z∈zs,lay z=(sz,ag)) (hz:dM P T (.agg zs))
   (hp:∀p∈ps.toList,∃z,zs[p.1]?=some z/\lay (ρ p.2)=lay z/\ρ p.2≠.any/\∀m,ρ p.2≠.aY m) :
   aM P H ρ (.build T ps) (.agg (kP zs (ps.toList.map fun p=>(p.1,ρ p.2))))
 |ag8 {x c} (hx:ρ x=.cx c):aM P H ρ (.nilCheck x) (.cx c)
 |qt {T E x i sz l k n r ag} (hx:ρ x=.list sz l) (hT:P.underlying T=some (.slice E)) (hE:bS P E sz ag) (hi:ρ i=.v (.int k n)) (h0:0<=n)
   (hr:l[n.toNat]?=some r) (hc:r.aq=sz):aM P H ρ (.indexAddr T x i) (.cx r)
 |wL {T E x i b sz off len k n ag} (hx:ρ x=.ref b sz off len) (hT:P.underlying T=some (.slice E)) (hE:bS P E sz ag) (hi:ρ i=.v (.int k n)) (h0:0<=n)
   (hn:n<len):aM P H ρ (.indexAddr T x i) (.aB b sz (off+n.toNat) 0)
 |acV {T E x sz ag l a h la ha} (hx:ρ x=.list sz l) (hT:P.underlying T=some (.slice E)) (hE:bS P E sz ag) (cI:∀y,la=some y->∃k,ρ y=.v (.int k (a:Nat)))
   (se:la=none->a=0) (jf:∀y,ha=some y->∃k,ρ y=.v (.int k (h:Nat))) (vO:ha=none->h=l.length) (h1:a<=h) (h2:h<=l.length) :
   aM P H ρ (.slice T x la ha none) (.list sz ((l.take h).drop a))
 |zg {T E x b sz off len ag a h la ha} (hx:ρ x=.ref b sz off len) (hT:P.underlying T=some (.slice E)) (hE:bS P E sz ag) (cI:∀y,la=some y->∃k,ρ y=.v (.int k (a:Nat)))
   (se:la=none->a=0) (jf:∀y,ha=some y->∃k,ρ y=.v (.int k (h:Nat))) (vO:ha=none->h=len) (h1:a<=h) (h2:h<=len) (nt:a<len) :
   aM P H ρ (.slice T x la ha none) (.ref b sz (off+a) (h-a))
 |aic {T E x b sz off len ag a h mx la z zm k k'} (hx:ρ x=.ref b sz off len) (hT:P.underlying T=some (.slice E)) (hE:bS P E sz ag) (cI:∀y,la=some y->∃k,ρ y=.v (.int k (a:Nat)))
   (se:la=none->a=0) (jf:ρ z=.v (.int k (h:Nat))) (hmx:ρ zm=.v (.int k' (mx:Nat))) (h1:a<=h) (h2:h<=mx) (h3:mx<=len) (nt:a<mx) :
   aM P H ρ (.slice T x la (some z) (some zm)) (.ref b sz (off+a) (h-a))
 |abC {T x sz l d as} (hx:ρ x=.list sz l) (has:as=#[T]) (hT:P.underlying T=some (.slice d)):aM P H ρ (.call ⟨.builtin .len,#[x],as⟩) (.v (.int .i64 (l.length:Nat)))
 |acx {T x b sz off len d as} (hx:ρ x=.ref b sz off len) (has:as=#[T]) (hT:P.underlying T=some (.slice d)):aM P H ρ (.call ⟨.builtin .len,#[x],as⟩) (.v (.int .i64 (len:Nat)))
 |ab9 {T x d as} (hx:ρ x=.v (.slice none 0 0)) (has:as=#[T]) (hT:P.underlying T=some (.slice d)):aM P H ρ (.call ⟨.builtin .len,#[x],as⟩) (.v (.int .i64 (0:Nat)))
 |acD {T x b sz off len cp d as} (hx:ρ x=.lj b sz off len cp) (has:as=#[T]) (hT:P.underlying T=some (.slice d)):aM P H ρ (.call ⟨.builtin .len,#[x],as⟩) (.v (.int .i64 (len:Nat)))
 |ags {T x b sz off len cp d as} (hx:ρ x=.lj b sz off len cp) (has:as=#[T]) (hT:P.underlying T=some (.slice d)):aM P H ρ (.call ⟨.builtin .cap,#[x],as⟩) (.v (.int .i64 (cp:Nat)))
 |af8 {T E x b sz off len cp ag a h la ha} (hx:ρ x=.lj b sz off len cp) (hT:P.underlying T=some (.slice E)) (hE:bS P E sz ag) (cI:∀y,la=some y->∃k,ρ y=.v (.int k (a:Nat)))
   (se:la=none->a=0) (jf:∀y,ha=some y->∃k,ρ y=.v (.int k (h:Nat))) (vO:ha=none->h=len) (h1:a<=h) (h2:h<=cp) (nt:a<cp) :
   aM P H ρ (.slice T x la ha none) (.lj b sz (off+a) (h-a) (cp-a))
 |min2 {x y k a b as} (hx:ρ x=.v (.int k a)) (hy:ρ y=.v (.int k b)):aM P H ρ (.call ⟨.builtin .min,#[x,y],as⟩) (.v (.int k (if b<a then b else a)))
 |max2 {x y k a b as} (hx:ρ x=.v (.int k a)) (hy:ρ y=.v (.int k b)):aM P H ρ (.call ⟨.builtin .max,#[x,y],as⟩) (.v (.int k (if b > a then b else a)))
 |akc {T x i s k n b} (hx:ρ x=.v (.string s)) (hT:P.underlying T=some .string) (hi:ρ i=.v (.int k n)) (h0:0<=n) (hb:s[n.toNat]?=some b):aM P H ρ (.index T x i) (.v (.int .u8 b.toNat))
 |acN {f xs as fn e} {vs:List Value} {r1 r2} (hf:P.funcs[f]?=some fn) (ta:(fn.name== "runtime.NumGoroutine")=false) (hb:fn.body.isNone=true) (hn:Extern.findNext fn=none) (he:Extern.find fn=some e)
   (hx:xs.toList.map ρ=vs.map LV.v) (hr:∀w:World,(e vs.toArray).run P w=.ok (.tuple #[r1,r2]) w) (h1:r1.oneCell'=true) (h2:r2.oneCell'=true) :
   aM P H ρ (.call ⟨.value (.func f),xs,as⟩) (.aY [.v r1,.v r2])
 |build {T zs ps} (hT:mP P T (zs.map lay)) (hz:dM P T (.agg zs)) (hp:∀p∈ps.toList,∃z,zs[p.1]?=some z/\lay (ρ p.2)=lay z/\ρ p.2≠.any/\∀m,ρ p.2≠.aY m) :
   aM P H ρ (.build T ps) (.agg (kP zs (ps.toList.map fun p=>(p.1,ρ p.2))))
section
variable {P:Program} {Z:Nat->Prop} {μ:Nat->Option Nat} {w:World}
theorem bJ.int{k:IntKind}{n:Int}:bJ Z μ w (.v (.int k n)) (.int k n):=⟨by simp[LV.isAgg],fun _=>by simp[aH,Value.oneCell']⟩
theorem bJ.bool{b:Bool}:bJ Z μ w (.v (.bool b)) (.bool b):=⟨by simp[LV.isAgg],fun _=>by simp[aH,Value.oneCell']⟩
theorem bJ.iO{x v:Value}(h:bJ Z μ w (.v x) v):v=x:=by
 have:=h.2 rfl;simp only[aH]at this;simpa using this.1
theorem bJ.v{x:Value}(h:x.oneCell'=true):bJ Z μ w (.v x) x:=⟨by simp[LV.isAgg],fun _=>by simp[aH,h]⟩
theorem aNB{op:BinOp}{k:IntKind}{a b:Int}{r:Value}(h:eO op k a b=some r):r.oneCell'=true:=by
 cases op<;>simp[eO]at h<;>first|(subst h;rfl)|(obtain⟨_,rfl⟩:=h;rfl)
theorem aEf{op:BinOp}{k:IntKind}{a b:Int}{r:Value}(h:rN op k a b=some r):r.oneCell'=true:=by
 unfold rN at h;split at h
 ·simp at h
 cases op<;>simp at h<;>(subst h;rfl)
theorem aKU{op:BinOp}{T:TypeId}{x y:Operand}{k:IntKind}{a b:Int}{r:Value}(h:eO op k a b=some r):
  (do eqGuard op T x y (.int k a) (.int k b);binOp op T (.int k a) (.int k b):Sem Value).run P w=.ok r w:=by
 cases op<;>simp[eO]at h<;>simp[eqGuard,binOp,Op.intArith,Op.intDiv,Op.intBits,Op.intCmp] <;>
  first
   |(subst h;rfl)
   |(obtain⟨h1,rfl⟩:=h;simp[h1])
   |skip
theorem aFi{op:BinOp}{T:TypeId}{x y:Operand}{k k':IntKind}{a b:Int}{r:Value}(h:rN op k a b=some r):
  (do eqGuard op T x y (.int k a) (.int k' b);binOp op T (.int k a) (.int k' b):Sem Value).run P w=.ok r w:=by
 unfold rN at h;split at h
 ·simp at h
 rename_i hb
 cases op<;>simp at h<;>subst h<;>simp[eqGuard,binOp,Op.shift,hb]
theorem ax6(off:Nat):∀(vs:List Value) (i:Nat) (cells:Array Value),off+i+vs.length<=cells.size ->
  ((vs.zipIdx i).foldl (fun cs p=>cs.setIfInBounds (off+p.2) p.1) cells).toList=cells.toList.take (off+i)++(vs++cells.toList.drop (off+i+vs.length))
 | [],i,cells,h=>by simp
 |v::vs,i,cells,h=>by
   simp only[dR]at h;simp only[List.zipIdx_cons,List.foldl_cons];rw[ax6 off vs (i+1) _ (by rw[Array.size_setIfInBounds];omega)];have e:off+(i+1)=(off+i)+1:=J;rw[e,Array.toList_setIfInBounds,List.take_succ_eq_append_getElem aQ,List.getElem_set_self,List.take_set_of_le J,List.drop_set_of_lt J];have e2:off+i+1+vs.length=off+i+(vs.length+1):=J;rw[e2];simp
theorem ak8{ls:List (Nat×Bool)}(place:Nat->Option (Nat×Nat))(gf:∀k n,ls[k]?=some n->place k=some (pK (ls.take k),n.1)):
  ∀(ps:List (Nat×Value)) (qs:List (Nat×LV)) (zs:List LV) (cells:Array Value),zs.map lay=ls->cP Z μ w zs cells.toList ->
   ps.map (·.1)=qs.map (·.1)->(∀(j:Nat) (p:Nat×Value) (q:Nat×LV),ps[j]?=some p->qs[j]?=some q->g8 Z μ w q.2 p.2/\q.2≠LV.any) ->
   (∀q∈qs,∃n,ls[q.1]?=some n/\lay q.2=n) ->
   ∃cs,Instr.fill place cells ps=some cs/\cP Z μ w (kP zs qs) cs.toList
 | [],[],zs,cells,_,hr,_,_,_=>⟨cells,rfl,hr⟩
 | [],_::_,_,_,_,_,h,_,_=>by simp at h
 |_::_,[],_,_,_,_,h,_,_=>by simp at h
 |(k,v)::ps,(k',x)::qs,zs,cells,hz,hr,hk,hv,hq=>by
   simp only[nK,iF]at hk;obtain⟨rfl,hk⟩:=hk;obtain⟨n,hn,hxn⟩:=hq (k,x) aE;obtain⟨hxv,hxa⟩:=hv 0 (k,v) (k,x) rfl rfl;obtain⟨c1,c2,c3,_⟩:=hxv.cells hxa;have hn':=hn;simp only at hn hxn;rw[<-hz,jY]at hn;obtain⟨z,hzk,hzn⟩:∃z,zs[k]?=some z/\lay z=n:=by
    cases h:zs[k]? with
    |none=>simp[h]at hn
    |some z=>exact⟨z,rfl,by simpa[h]using hn⟩
   obtain⟨pre,ch,post,e1,e2,e3,e4,e5⟩:=cP.get zs cells.toList k z hr hzk;have bU:v.cells.size=n.1:=by rw[c2,<-hxn];rfl
   have aRr:ch.length=n.1:=by rw[e3,<-hzn];rfl
   have vi:pK (ls.take k)=pre.length:=by rw[<-hz,aku,e2]
   have hcs:cells.size=pre.length+(ch.length+post.length):=by
    rw[<-pT,e1];simp
   simp only[Instr.fill,gf k n hn',vi];have aJ2:¬((decide (v.cells.size≠n.1)||decide (pre.length+v.cells.size > cells.size))=true):=by
    simp only[Bool.or_eq_true,decide_eq_true_eq,not_or,aJb];omega
   rw[if_neg aJ2];have hf:=ax6 pre.length v.cells.toList 0 cells aQ;have nS:(v.cells.zipIdx.foldl (fun cs p=>cs.setIfInBounds (pre.length+p.2) p.1) cells).toList=pre++(v.cells.toList++post):=by
    rw[<-Array.foldl_toList,Array.toList_zipIdx];rw[hf,e1];simp only[nW,pT,List.take_left];rw[aCy,mE J,fD];congr 2;rw[aCy,mE J,fD];have:pre.length+v.cells.size-pre.length-ch.length=0:=J;rw[this];rfl
   have aa8:=e5 x v.cells.toList c1 (by simp[c2]);rw[<-nS]at aa8;refine ak8 place gf ps qs (zs.set k x) _ ?_ aa8 hk (fun j p q hp hq=>hv (j+1) p q (by simpa using hp) (by simpa using hq)) (fun q h=>hq q (by simp[h]));rw[List.map_set,hz,hxn];refine List.ext_getElem? fun j=>?_;by_cases hj:k=j
   ·subst hj;rw[List.getElem?_set_self (qi.1 hn').1,hn']
   rw[List.getElem?_set_ne hj]
end
end Go.Lg
namespace Go.Lg
section
variable {P:Program} {Z:Nat->Prop} {μ:Nat->Option Nat} {w:World} {H:cd} {ρ:Operand->LV} {a:Act}
theorem il.get:∀(l:List LV) (vs:List Value) (i:Nat) (x:LV),il Z μ w l vs->l[i]?=some x->∃v,vs[i]?=some v/\g8 Z μ w x v
 | [],_,_,_,_,h=>by simp at h
 |y::ys,_,0,x,⟨v,l7,e,h1,h2⟩,hi=>by
   simp only[o8,gj]at hi;subst hi e;exact⟨v,by simp,h1⟩
 |y::ys,_,i+1,x,⟨v,l7,e,h1,h2⟩,hi=>by
   subst e;have:=il.get ys l7 i x h2 (by simpa using hi);simpa using this
theorem aqD{sz:Nat}{l:List LV}{i:Nat}{r:LV}{off:Nat}{c:Array Value}{part rest:List Value}
  (hd:c.toList.drop off=part++rest) (hr:aT Z μ w sz l part) (hi:l[i]?=some r) :
  ∃ch post,c.toList.drop (off+i*sz)=ch++post/\ch.length=sz/\aH Z μ w r ch:=by
 obtain⟨pre,ch,post,e1,e2,e3,e4,_⟩:=aT.get l part i r hr hi;refine⟨ch,post++rest,?_,e3,e4⟩;rw[<-rZ,hd,e1,<-e2];simp
theorem run_indexAt_slice{T E:TypeId}{sz:Nat}{ag:Bool}(hT:P.underlying T=some (.slice E))(hE:bS P E sz ag)(k:IntKind)(n:Int)(len cap b off:Nat)(h0:0<=n)(h1:n<len):
  (Instr.indexAt T (.slice (some ⟨b,off,none⟩) len cap) (.int k n)).run P w=.ok (.pointer (some ⟨b,off+n.toNat*sz,none⟩)) w:=by
 have h2:(0<=n/\n<(len:Int)):=⟨h0,h1⟩;simp[Instr.indexAt,asIntOf,run_underlying hT,run_sizeOf hE,h2,Addr.add_mid]
theorem run_equal_bool{T:TypeId}(hT:P.underlying T=some .bool)(i j:Bool):(Op.equal T (.bool i) (.bool j)).run P w=.ok (i==j) w:=by
 have h:∀d,(Op.equalIn (d+1) T (.bool i) (.bool j)).run P w=.ok (i==j) w:=fun d=>by
  simp only[Op.equalIn,Sem.run_bind,run_underlying hT,Result.andThen_ok,Sem.run_pure]
 exact h 9999
theorem aJV{T:TypeId}(hT:P.underlying T=some .bool){x y:Operand}(i j:Bool):
  (do eqGuard .eql T x y (.bool i) (.bool j);binOp .eql T (.bool i) (.bool j):Sem Value).run P w=.ok (.bool (i==j)) w:=by
 have h1:(eqGuard .eql T x y (.bool i) (.bool j)).run P w=.ok () w:=by simp[eqGuard]
 have h2:(binOp .eql T (.bool i) (.bool j)).run P w=.ok (.bool (i==j)) w:=by
  simp only[binOp];rw[Sem.run_bind,run_equal_bool hT];rfl
 rw[Sem.run_bind,h1];exact h2
theorem aIc{T:TypeId}(hT:P.underlying T=some .bool){x y:Operand}(i j:Bool):
  (do eqGuard .neq T x y (.bool i) (.bool j);binOp .neq T (.bool i) (.bool j):Sem Value).run P w=.ok (.bool (!(i==j))) w:=by
 have h1:(eqGuard .neq T x y (.bool i) (.bool j)).run P w=.ok () w:=by simp[eqGuard]
 have h2:(binOp .neq T (.bool i) (.bool j)).run P w=.ok (.bool (!(i==j))) w:=by
  simp only[binOp];rw[Sem.run_bind,run_equal_bool hT];rfl
 rw[Sem.run_bind,h1];exact h2
theorem ari(isS:Bool)(len cap:Nat)(la ha:Option Value)(a h:Nat)(cI:∀y,la=some y->∃k,y=.int k (a:Nat))(se:la=none->a=0)
  (jf:∀y,ha=some y->∃k,y=.int k (h:Nat)) (vO:ha=none->h=len) (h1:a<=h) (h2:h<=cap) :
  (Instr.sliceBounds isS len cap la ha none).run P w=.ok (a,h,cap) w:=by
 have e1:∀(k:IntKind) (c:BoundsCode),(Instr.sliceBound (.int k (h:Nat)) cap c).run P w=.ok h w:=fun k c=>by
  have:=run_sliceBound (P:=P) w k (h:Int) cap c J J;simpa using this
 have e2:∀(k:IntKind) (c:BoundsCode),(Instr.sliceBound (.int k (a:Nat)) h c).run P w=.ok a w:=fun k c=>by
  have:=run_sliceBound (P:=P) w k (a:Int) h c J J;simpa using this
 cases la with
 |none =>
  have:=se rfl;subst this
  cases ha with
  |none=>have:=vO rfl;subst this;simp[Instr.sliceBounds]
  |some y=>obtain⟨k,rfl⟩:=jf y rfl;simp[Instr.sliceBounds,e1]
 |some x =>
  obtain⟨k',rfl⟩:=cI x rfl
  cases ha with
  |none=>have:=vO rfl;subst this;simp[Instr.sliceBounds,e2]
  |some y=>obtain⟨k,rfl⟩:=jf y rfl;simp[Instr.sliceBounds,e1,e2]
theorem aI7(len cap:Nat)(la:Option Value)(a h m:Nat)(k k':IntKind)(cI:∀y,la=some y->∃k,y=.int k (a:Nat))(se:la=none->a=0)(h1:a<=h)(h2:h<=m)(h3:m<=cap):
  (Instr.sliceBounds true len cap la (some (.int k (h:Nat))) (some (.int k' (m:Nat)))).run P w=.ok (a,h,m) w:=by
 have e0:∀(c:BoundsCode),(Instr.sliceBound (.int k' (m:Nat)) cap c).run P w=.ok m w:=fun c=>by
  have:=run_sliceBound (P:=P) w k' (m:Int) cap c J J;simpa using this
 have e1:∀(c:BoundsCode),(Instr.sliceBound (.int k (h:Nat)) m c).run P w=.ok h w:=fun c=>by
  have:=run_sliceBound (P:=P) w k (h:Int) m c J J;simpa using this
 have e2:∀(k:IntKind) (c:BoundsCode),(Instr.sliceBound (.int k (a:Nat)) h c).run P w=.ok a w:=fun k c=>by
  have:=run_sliceBound (P:=P) w k (a:Int) h c J J;simpa using this
 cases la with
 |none =>
  have:=se rfl;subst this;simp[Instr.sliceBounds,e0,e1]
 |some x =>
  obtain⟨k',rfl⟩:=cI x rfl;simp[Instr.sliceBounds,e0,e1,e2]
theorem aB8:∀(fs:List Field) (ls:List (Nat×Bool)) (off:Nat),tJ P off fs ls ->
  ∃pl:List (Nat×Nat),(fs.mapM fun f=>do pure (f.offset,<-sizeOf f.type):Sem (List (Nat×Nat))).run P w=.ok pl w/\∀k n,ls[k]?=some n->pl[k]?=some (off+pK (ls.take k),n.1)
 | [],[],_,_=>⟨[],rfl,fun k n h=>by simp at h⟩
 | [],_::_,_,h=>by simp[tJ]at h
 |_::_,[],_,h=>by simp[tJ]at h
 |f::fs,(n,ag)::r,off,h=>by
   simp only[tJ]at h;obtain⟨h1,h2,h3⟩:=h;obtain⟨pl,e1,e2⟩:=aB8 fs r (off+n) h3;refine⟨(off,n)::pl,?_,?_⟩
   ·simp only[List.mapM_cons,Sem.run_bind,run_sizeOf h2,Result.andThen_ok,Sem.run_pure,e1,h1]
   intro k m hk
   cases k with
   |zero=>simp at hk;subst hk;simp[pK]
   |succ k =>
    have:=e2 k m (by simpa using hk);simp only[List.getElem?_cons_succ,this,qS,pK];congr 2;omega
theorem akk{n sz:Nat}{ag:Bool}:∀(fs:List LV) (k:Nat),(∀z∈fs,lay z=(sz,ag))->k<=fs.length->dg (fs.take k)=k*sz
 |_,0,_,_=>by simp[dg]
 | [],k+1,_,h=>by simp at h
 |x::xs,k+1,h,hk=>by
  have h1:x.aq=sz:=by have:=h x aE;simp only[lay,xw]at this;exact this.1
  rw[qS,dg,h1,akk (n:=n) xs k (fun z hz=>h z (by simp[hz])) (by simpa using hk),Nat.succ_mul,Nat.add_comm]
theorem aCN{fs:List LV}{n sz:Nat}{ag:Bool}(h:fs.map lay=av n (sz,ag)):fs.length=n/\∀z∈fs,lay z=(sz,ag):=by
 refine⟨by have:=congrArg List.length h;simpa using this,fun z hz=>?_⟩;have:lay z∈fs.map lay:=List.mem_map_of_mem hz;rw[h]at this;exact(List.mem_replicate.1 this).2
theorem run_indexAt_array{T E:TypeId}{n sz:Nat}{ag:Bool}(hT:P.underlying T=some (.array n E))(hE:bS P E sz ag)(k:IntKind)(m:Int)(b off:Nat)(h0:0<=m)(h1:m<n):
  (Instr.indexAt T (.pointer (some ⟨b,off,none⟩)) (.int k m)).run P w=.ok (.pointer (some ⟨b,off+m.toNat*sz,none⟩)) w:=by
 have h2:(0<=m/\m<(n:Int)):=⟨h0,h1⟩;simp[Instr.indexAt,Instr.sureAddr,asIntOf,run_underlying hT,run_sizeOf hE,h2,Addr.add_mid]
theorem aEV{T E:TypeId}{n sz:Nat}{ag:Bool}{fs:List LV}{x:LV}{v:Value}{k:IntKind}{m:Int}(hT:P.underlying T=some (.array n E))(hE:bS P E sz ag)(hf:fs.map lay=av n (sz,ag))(h0:0<=m)
  (hx:fs[m.toNat]?=some x) (aZ:x≠.any) (h:g8 Z μ w (.agg fs) v):∃u,(Instr.index T v (.int k m)).run P w=.ok u w/\g8 Z μ w x u:=by
 obtain⟨hl,hly⟩:=aCN hf;obtain⟨cs,rfl,hc⟩:=h.1 rfl;simp only[aH]at hc;obtain⟨pre,ch,post,e1,e2,e3,e4,_⟩:=cP.get fs cs.toList m.toNat x hc hx;have hk:=(qi.1 hx).1;have hxl:=hly x (vI hx);simp only[lay,xw]at hxl;obtain⟨u,wG,hu3⟩:=aza (T:=E) (by rw[hxl.1,hxl.2];exact hE) e1 e4 aZ;refine⟨u,?_,hu3⟩;have vi:m.toNat*sz=pre.length:=by rw[e2,akk (n:=n) fs m.toNat hly J]
 have h2:(0<=m/\m<(n:Int)):=⟨h0,J⟩;simp only[Instr.index,asIntOf,Sem.run_bind,Sem.run_pure,Result.andThen_ok,run_underlying hT,if_pos h2,run_sizeOf hE,vi];simpa using wG
theorem aEX{T E:TypeId}{zs:List LV}{ps:Array (Nat×Operand)}{n sz:Nat}{ag:Bool}(hT:P.underlying T=some (.array n E))(hE:bS P E sz ag)(hf:∀z∈zs,lay z=(sz,ag))(hz:dM P T (.agg zs))
  (hp:∀p∈ps.toList,∃z,zs[p.1]?=some z/\lay (ρ p.2)=lay z/\ρ p.2≠.any/\∀m,ρ p.2≠.aY m) (dE:∀p∈ps.toList,bJ Z μ w (ρ p.2) (a.eval p.2)) :
  ∃v,(Instr.build T (ps.map fun(i,x)=>(i,a.eval x))).run P w=.ok v w/\bJ Z μ w (.agg (kP zs (ps.toList.map fun p=>(p.1,ρ p.2)))) v:=by
 obtain⟨i,zv,z1,z2,_,z3⟩:=hz;have zC:=z3 Z μ w;simp only[aH]at zC;obtain⟨cs,f1,f2⟩:=ak8 (Z:=Z) (μ:=μ) (w:=w) (ls:=zs.map lay) (fun k=>some (k*sz,sz)) (fun k n hk=>by
   rw[jY,abz]at hk;obtain⟨z,hz,rfl⟩:=hk;have hk:=(qi.1 hz).1;have p9:=hf z (vI hz);rw[p9,aku,akk (n:=0) zs k hf J])
  (ps.toList.map fun p=>(p.1,a.eval p.2)) (ps.toList.map fun p=>(p.1,ρ p.2)) zs zv.cells rfl zC aE
  (fun j p q mj rR=>by
   simp only[jY,abz]at mj rR;obtain⟨x,hx,rfl⟩:=mj;obtain⟨y,hy,rfl⟩:=rR;rw[hx]at hy;cases hy;have hm:=vI hx;obtain⟨z,_,_,h3,h4⟩:=hp x hm;exact⟨bJ.to1 h4 h3 (dE x hm),h3⟩)
  (fun q hq=>by
   simp only[cZ]at hq;obtain⟨x,hx,rfl⟩:=hq;obtain⟨z,h1,h2,_⟩:=hp x hx;exact⟨lay z,by simp[jY,h1],h2⟩)
 refine⟨.agg cs,?_,⟨fun _=>⟨cs,rfl,by simpa[aH]using f2⟩,by simp[LV.isAgg]⟩⟩;have hzv:(zeroValue T).run P w=.ok zv w:=by simp[zeroValue,typeInfo,z1,z2]
 simp only[Instr.build,Sem.run_bind,hzv,Result.andThen_ok,run_underlying hT,run_sizeOf hE];have:(ahG (fun x=>match x with|(i,x)=>(i,a.eval x)) ps).toList=ps.toList.map fun p=>(p.1,a.eval p.2):=aE;rw[this,f1];rfl
theorem aLU{T:TypeId}{zs:List LV}{ps:Array (Nat×Operand)}(hT:mP P T (zs.map lay))(hz:dM P T (.agg zs))
  (hp:∀p∈ps.toList,∃z,zs[p.1]?=some z/\lay (ρ p.2)=lay z/\ρ p.2≠.any/\∀m,ρ p.2≠.aY m) (dE:∀p∈ps.toList,bJ Z μ w (ρ p.2) (a.eval p.2)) :
  ∃v,(Instr.build T (ps.map fun(i,x)=>(i,a.eval x))).run P w=.ok v w/\bJ Z μ w (.agg (kP zs (ps.toList.map fun p=>(p.1,ρ p.2)))) v:=by
 obtain⟨i,zv,z1,z2,_,z3⟩:=hz;obtain⟨fields,hu,hl,nt⟩:=hT;have zC:=z3 Z μ w;simp only[aH]at zC;obtain⟨pl,e1,e2⟩:=aB8 (P:=P) (w:=w) fields.toList _ 0 hl;obtain⟨cs,f1,f2⟩:=ak8 (Z:=Z) (μ:=μ) (w:=w) (ls:=zs.map lay) (fun k=>pl.toArray[k]?) (fun k n hk=>by simpa using e2 k n hk)
  (ps.toList.map fun p=>(p.1,a.eval p.2)) (ps.toList.map fun p=>(p.1,ρ p.2)) zs zv.cells rfl zC aE
  (fun j p q mj rR=>by
   simp only[jY,abz]at mj rR;obtain⟨x,hx,rfl⟩:=mj;obtain⟨y,hy,rfl⟩:=rR;rw[hx]at hy;cases hy;have hm:=vI hx;obtain⟨z,_,_,h3,h4⟩:=hp x hm;exact⟨bJ.to1 h4 h3 (dE x hm),h3⟩)
  (fun q hq=>by
   simp only[cZ]at hq;obtain⟨x,hx,rfl⟩:=hq;obtain⟨z,h1,h2,_⟩:=hp x hx;exact⟨lay z,by simp[jY,h1],h2⟩)
 refine⟨.agg cs,?_,⟨fun _=>⟨cs,rfl,by simpa[aH]using f2⟩,by simp[LV.isAgg]⟩⟩;have gf:(fields.mapM fun f=>do pure (f.offset,<-sizeOf f.type):Sem (Array (Nat×Nat))).run P w=.ok pl.toArray w:=by
  rw[Array.mapM_eq_mapM_toList,Sem.run_map,e1];rfl
 have hzv:(zeroValue T).run P w=.ok zv w:=by simp[zeroValue,typeInfo,z1,z2]
 simp only[Instr.build,Sem.run_bind,hzv,Result.andThen_ok,run_underlying hu,gf];have:(ahG (fun x=>match x with|(i,x)=>(i,a.eval x)) ps).toList=ps.toList.map fun p=>(p.1,a.eval p.2):=aE;rw[this,f1];rfl
set_option maxHeartbeats 2000000 in
theorem aM.sound{op:Op}{r:LV}(ho:aM P H ρ op r)(dE:∀x∈op.operands,bJ Z μ w (ρ x) (a.eval x))
  (hh:∀b id,μ b=some id->∃blk,H b=some blk/\xd Z μ w blk id) (dst:Option Tmp) (ty:TypeId) (pos:String) (after:Array Edge) (g:Option (Nat×Bool)) :
  ∃v,(execOp a.eval ⟨dst,op,ty,pos,after,g⟩).run P w=.ok (.value v) w/\bJ Z μ w r v:=by
 cases ho with
 |move x=>exact⟨a.eval x,rfl,dE x cX⟩
 |assign x=>exact⟨a.eval x,rfl,dE x cX⟩
 | @pick c x y t h =>
  have hc:=dE c cX;rw[h]at hc;have hc:=hc.iO;refine⟨if t then a.eval x else a.eval y,by cases t<;>simp[execOp,hc,asBool],?_⟩
  cases t
  ·simpa using dE y cX
  simpa using dE x cX
 | @bin op T x y U k i j r hx hy h =>
  have e1:=dE x cX;rw[hx]at e1;have e1:=e1.iO;have e2:=dE y cX;rw[hy]at e2;have e2:=e2.iO;refine⟨r,?_,bJ.v (aNB h)⟩;have:=aKU (P:=P) (w:=w) (T:=T) (x:=x) (y:=y) h;simp only[execOp,e1,e2];rw[Sem.run_bind,this];rfl
 | @sh op T x y U k k' i j r hx hy h =>
  have e1:=dE x cX;rw[hx]at e1;have e1:=e1.iO;have e2:=dE y cX;rw[hy]at e2;have e2:=e2.iO;refine⟨r,?_,bJ.v (aEf h)⟩;have:=aFi (P:=P) (w:=w) (T:=T) (x:=x) (y:=y) (k':=k') h;simp only[execOp,e1,e2];rw[Sem.run_bind,this];rfl
 | @beq T x y U i j hx hy hT =>
  have e1:=dE x cX;rw[hx]at e1;have e1:=e1.iO;have e2:=dE y cX;rw[hy]at e2;have e2:=e2.iO;exact⟨.bool (i==j),by simp only[execOp,e1,e2];rw[Sem.run_bind,aJV hT];rfl,bJ.bool⟩
 | @bne T x y U i j hx hy hT =>
  have e1:=dE x cX;rw[hx]at e1;have e1:=e1.iO;have e2:=dE y cX;rw[hy]at e2;have e2:=e2.iO;exact⟨.bool (!(i==j)),by simp only[execOp,e1,e2];rw[Sem.run_bind,aIc hT];rfl,bJ.bool⟩
 | @not T x i hx =>
  have e1:=dE x cX;rw[hx]at e1;have e1:=e1.iO;exact⟨.bool (!i),by simp[execOp,e1,Op.unary],bJ.bool⟩
 | @neg T x k i hx =>
  have e1:=dE x cX;rw[hx]at e1;have e1:=e1.iO;exact⟨.int k (k.wrap (0-i)),by simp[execOp,e1,Op.unary,Op.intArith],bJ.int⟩
 | @conv S D x k k' n d hS hD hx =>
  have e1:=dE x cX;rw[hx]at e1;have e1:=e1.iO;exact⟨.int k (k.wrap n),by simp[execOp,e1,convert,run_underlying hS,run_underlying hD,Conv.intToInt],bJ.int⟩
 | @extract t i l r ht hr aZ =>
  have e1:=dE t cX;rw[ht]at e1;obtain⟨vs,e2,e3⟩:=e1;obtain⟨v,h1,h2⟩:=il.get _ _ _ _ e3 hr;refine⟨v,?_,bJ.xO aZ h2⟩;have:vs[i]?=some v:=by rw[<-afy];exact h1
  simp[execOp,e2,Instr.extract,this]
 | @field T x k fs r hx hT hr aZ =>
  have e1:=dE x cX;rw[hx]at e1;obtain⟨u,h1,h2⟩:=aFw (P:=P) (w:=w) hT hr (LV.fJ aZ) (bJ.to1 aE aE e1);exact⟨u,by simp[execOp,h1],bJ.xO (LV.fh aZ) h2⟩
 | @aax T p k fs r hp hT hr =>
  have e1:=dE p cX;rw[hp]at e1;have e2:=e1.2 rfl;simp only[aH]at e2;obtain⟨blk,off,cc,U,fz,part,rest,h1,h2,h3,h4,h5,h6,h7⟩:=e2;obtain⟨pre,ch,post,g1,g2,g3,g4,_⟩:=cP.get fs part k r h6 hr;have hk:k<(fs.map lay).length:=by rw[cC];exact(qi.1 hr).1
  have hf:=azq (P:=P) (w:=w) hT hk blk off;rw[aku]at hf;refine⟨.pointer (some ⟨blk,off+dg (fs.take k),none⟩),?_,⟨by simp[LV.isAgg],fun _=>?_⟩⟩
  ·simp only[iF,and_true]at h1;simp[execOp,h1,hf]
  simp only[aH];refine⟨blk,_,cc,U,fz,ch,post++rest,rfl,h2,h3,?_,g3,g4,(aaX _).1 (by simpa[LV.pure]using h7) _ (vI hr)⟩;rw[<-rZ,h4,g1,<-g2];simp
 | @acW T p k b sz i o ls hp hT hk =>
  have e1:=dE p cX;rw[hp]at e1;have e2:=e1.2 rfl;simp only[aH]at e2;obtain⟨id,h1,h2⟩:=e2;simp only[iF,and_true]at h1;have hf:=azq (P:=P) (w:=w) hT hk id (i*sz+o);refine⟨.pointer (some ⟨id,i*sz+o+pK (ls.take k),none⟩),by simp[execOp,h1,hf],⟨by simp[LV.isAgg],fun _=>?_⟩⟩;simp only[aH];exact⟨id,by rw[vp],h2⟩
 | @yj T E x i n fs k m r sz ag hx hT hE hf hi h0 hr hp =>
  have e1:=dE x cX;rw[hx]at e1;have e2:=dE i cX;rw[hi]at e2;have e2:=e2.iO;obtain⟨u,h1,h2⟩:=aEV (P:=P) (w:=w) (k:=k) hT hE hf h0 hr (LV.fJ hp) (bJ.to1 aE aE e1);exact⟨u,by simp[execOp,e2,h1],bJ.xO (LV.fh hp) h2⟩
 | @ado T E x j n b sz i o k m es ag hx hT hE hi h0 hm =>
  have e1:=dE x cX;rw[hx]at e1;have e3:=dE j cX;rw[hi]at e3;have e3:=e3.iO;have e2:=e1.2 rfl;simp only[aH]at e2;obtain⟨id,h1,h2⟩:=e2;simp only[iF,and_true]at h1;have hf:=run_indexAt_array (P:=P) (w:=w) hT hE k m id (i*sz+o) h0 hm;refine⟨.pointer (some ⟨id,i*sz+o+m.toNat*es,none⟩),by simp[execOp,h1,e3,hf],⟨by simp[LV.isAgg],fun _=>?_⟩⟩;simp only[aH];exact⟨id,by rw[vp],h2⟩
 | @ac3 T E x i n fs k m r sz ag hx hT hE hf hi h0 hr =>
  have e1:=dE x cX;rw[hx]at e1;have e3:=dE i cX;rw[hi]at e3;have e3:=e3.iO;have e2:=e1.2 rfl;simp only[aH]at e2;obtain⟨blk,off,cc,U,fz,part,rest,h1,h2,h3,h4,h5,h6,h7⟩:=e2;obtain⟨hl,hly⟩:=aCN hf;have hk:=(qi.1 hr).1;obtain⟨pre,ch,post,g1,g2,g3,g4,_⟩:=cP.get fs part m.toNat r h6 hr;have sK:=run_indexAt_array (P:=P) (w:=w) hT hE k m blk off h0 J;rw[<-akk (n:=n) fs m.toNat hly J]at sK;refine⟨.pointer (some ⟨blk,off+dg (fs.take m.toNat),none⟩),?_,⟨by simp[LV.isAgg],fun _=>?_⟩⟩
  ·simp only[iF,and_true]at h1;simp[execOp,h1,e3,sK]
  simp only[aH];refine⟨blk,_,cc,U,fz,ch,post++rest,rfl,h2,h3,?_,g3,g4,(aaX _).1 (by simpa[LV.pure]using h7) _ (vI hr)⟩;rw[<-rZ,h4,g1,<-g2];simp
 | @abx T p c hp hT hc =>
  have e1:=dE p cX;rw[hp]at e1;have e2:=e1.2 rfl;simp only[aH]at e2;obtain⟨blk,off,cc,U,fz,part,rest,h1,h2,h3,h4,h5,h6,h7⟩:=e2;simp only[iF,and_true]at h1;obtain⟨v,g1,g2⟩:=awH (P:=P) hT h3 h4 h6 (LV.fJ hc);exact⟨v,by simp[execOp,h1,g1],bJ.xO (LV.fh hc) g2⟩
 | @fa T p b sz i o blk x r n ag hp hb hs hi hx hr hT =>
  have e1:=dE p cX;rw[hp]at e1;have e2:=e1.2 rfl;simp only[aH]at e2;obtain⟨id,h1,h2⟩:=e2;simp only[iF,and_true]at h1;obtain⟨blk',rM,c,U,part,rest,q1,q2,q3⟩:=hh b id h2;rw[hb]at rM;cases rM;obtain⟨ch,post,k1,k2,k3⟩:=aqD (off:=0) (by simpa using q2) q3 hi;obtain⟨pre,yp,yR,j1,j2,j3,j4,j5,j6,j7,j8⟩:=LV.amY x o n ag r ch hr k3 (by rw[k2,hs,hx]);have hd:c.toList.drop (i*sz+o)=yp++(yR++post):=by
   rw[fZ,hs]at k1;rw[<-rZ,k1,j1,<-j2];simp
  obtain⟨v,g1,g2⟩:=awH (P:=P) (y:=r) (by rw[j5,j6];exact hT) q1 hd j4 j7;exact⟨v,by simp[execOp,h1,g1],bJ.xO j8 g2⟩
 | @ahF x b sz i o hx =>
  have e1:=dE x cX;rw[hx]at e1;have e2:=e1.2 rfl;simp only[aH]at e2;obtain⟨id,h1,h2⟩:=e2;simp only[iF,and_true]at h1;exact⟨a.eval x,by simp[execOp,h1],e1⟩
 | @ag8 x c hx =>
  have e1:=dE x cX;rw[hx]at e1;have e2:=e1.2 rfl;simp only[aH]at e2;obtain⟨blk,off,cc,U,fz,part,rest,h1,h2⟩:=e2;simp only[iF,and_true]at h1;exact⟨a.eval x,by simp[execOp,h1],e1⟩
 | @qt T E x i sz l k n r ag hx hT hE hi h0 hr hc =>
  have e1:=dE x cX;rw[hx]at e1;have e2:=dE i cX;rw[hi]at e2;have e2:=e2.iO;have e3:=e1.2 rfl;simp only[aH]at e3;obtain⟨ad,len,cap,h1,h2,h3,h4,h9⟩:=e3;simp only[iF,and_true]at h1;have bV:=(qi.1 hr).1;rcases h4 with h4|⟨blk,off,c,U,fz,part,rest,g1,g2,g3,g4,g5⟩
  ·subst h4;simp at bV
  subst g1;have hn:n<(len:Int):=J;have:=run_indexAt_slice (P:=P) (w:=w) hT hE k n len cap blk off h0 hn;obtain⟨ch,post,k1,k2,k3⟩:=aqD g4 g5 hr;refine⟨_,by simp only[execOp,h1,e2,Sem.run_bind,this];rfl,⟨by simp[LV.isAgg],fun _=>?_⟩⟩;simp only[aH];exact⟨blk,_,c,U,fz,ch,post,rfl,g2,g3,k1,by rw[k2,hc],k3,(aaX _).1 h9 _ (vI hr)⟩
 | @wL T E x i b sz off len k n ag hx hT hE hi h0 hn =>
  have e1:=dE x cX;rw[hx]at e1;have e2:=dE i cX;rw[hi]at e2;have e2:=e2.iO;have e3:=e1.2 rfl;simp only[aH]at e3;rcases e3 with⟨_,e3⟩|⟨id,cap,c,U,fz,h1,h2,h3,h4,h5⟩
  ·omega
  simp only[iF,and_true]at h1;have:=run_indexAt_slice (P:=P) (w:=w) hT hE k n len cap id (off*sz) h0 hn;refine⟨_,by simp only[execOp,h1,e2,Sem.run_bind,this];rfl,⟨by simp[LV.isAgg],fun _=>?_⟩⟩;simp only[aH];exact⟨id,by rw[iV];rfl,h2⟩
 | @acV T E x sz ag l lo hi la ha hx hT hE cI se jf vO h1 h2 =>
  have e1:=dE x cX;rw[hx]at e1;have e3:=e1.2 rfl;simp only[aH]at e3;obtain⟨ad,len,cap,q1,q2,q3,q4,q9⟩:=e3;simp only[iF,and_true]at q1;have hb:=ari (P:=P) (w:=w) true len cap (la.map a.eval) (ha.map a.eval) lo hi
   (fun y hy=>by
    cases la with
    |none=>simp at hy
    |some z =>
     simp only[uh,gj]at hy;obtain⟨k,hk⟩:=cI z rfl;have:=dE z cX;rw[hk]at this;exact⟨k,by rw[<-hy];exact this.iO⟩)
   (fun h=>se mA)
   (fun y hy=>by
    cases ha with
    |none=>simp at hy
    |some z =>
     simp only[uh,gj]at hy;obtain⟨k,hk⟩:=jf z rfl;have:=dE z cX;rw[hk]at this;exact⟨k,by rw[<-hy];exact this.iO⟩)
   (fun h=>by rw[q2];exact vO mA) h1 J
  have iA:(Instr.sliceAt T (.slice ad len cap) (la.map a.eval) (ha.map a.eval) none).run P w=.ok (.slice (if cap=lo then ad else ad.map (·.add (lo*sz))) (hi-lo) (cap-lo)) w:=by
   simp only[Instr.sliceAt,Sem.run_bind,run_underlying hT,Result.andThen_ok,Instr.slice,hb,run_sizeOf hE,Sem.run_pure]
  refine⟨_,by simp only[execOp,q1,aqe,Sem.run_bind,iA];rfl,⟨by simp[LV.isAgg],fun _=>?_⟩⟩;simp only[aH];refine⟨_,_,_,rfl,by simp;omega,J,?_,(aaX _).2 fun x hx=>(aaX _).1 q9 x (yJ (yF hx))⟩;by_cases bV:lo<hi
  ·right;rcases q4 with q4|⟨blk,off,c,U,fz,part,rest,g1,g2,g3,g4,g5⟩
   ·subst q4;simp at h2;omega
   subst g1;have ju:¬cap=lo:=J;obtain⟨c1,c2,d1,d2,d3⟩:=aT.split (l.take hi) (l.drop hi) part (by rw[ur];exact g5);obtain⟨c3,c4,d4,d5,d6⟩:=aT.split ((l.take hi).take lo) ((l.take hi).drop lo) c1 (by rw[ur];exact d2);have oy:=aT.length _ _ d5;simp only[fH]at oy;refine⟨blk,off+lo*sz,c,U,fz,c4,c2++rest,by simp[ju,Addr.add_mid],g2,g3,?_,d6⟩;rw[<-rZ,g4,d1,d4];have:lo*sz=c3.length:=by rw[oy];congr 1;omega
   rw[this];simp
  left;have:lo=hi:=J;subst this;apply List.eq_nil_of_length_eq_zero;simp
 | @zg T E x b sz off len ag lo hi la ha hx hT hE cI se jf vO h1 h2 nt =>
  have e1:=dE x cX;rw[hx]at e1;have e3:=e1.2 rfl;simp only[aH]at e3;rcases e3 with⟨_,e3⟩|⟨id,cap,c,U,fz,q1,q2,q3,q4,q5⟩
  ·omega
  simp only[iF,and_true]at q1;have hb:=ari (P:=P) (w:=w) true len cap (la.map a.eval) (ha.map a.eval) lo hi
   (fun y hy=>by
    cases la with
    |none=>simp at hy
    |some z =>
     simp only[uh,gj]at hy;obtain⟨k,hk⟩:=cI z rfl;have:=dE z cX;rw[hk]at this;exact⟨k,by rw[<-hy];exact this.iO⟩)
   (fun h=>se mA)
   (fun y hy=>by
    cases ha with
    |none=>simp at hy
    |some z =>
     simp only[uh,gj]at hy;obtain⟨k,hk⟩:=jf z rfl;have:=dE z cX;rw[hk]at this;exact⟨k,by rw[<-hy];exact this.iO⟩)
   (fun h=>vO mA) h1 J
  have iA:(Instr.sliceAt T (.slice (some ⟨id,off*sz,none⟩) len cap) (la.map a.eval) (ha.map a.eval) none).run P w =
    .ok (.slice (if cap=lo then some ⟨id,off*sz,none⟩else some ⟨id,off*sz+lo*sz,none⟩) (hi-lo) (cap-lo)) w:=by
   simp only[Instr.sliceAt,Sem.run_bind,run_underlying hT,Result.andThen_ok,Instr.slice,hb,run_sizeOf hE,Sem.run_pure,uh,Addr.add_mid]
  refine⟨_,by simp only[execOp,q1,aqe,Sem.run_bind,iA];rfl,⟨by simp[LV.isAgg],fun _=>?_⟩⟩;simp only[aH];have ju:¬cap=lo:=J;refine .inr ⟨id,cap-lo,c,U,fz,by simp[ju,iV],q2,J,q4,?_⟩;have:off+lo+(cap-lo)=off+cap:=J;rw[this];exact q5
 | @aic T E x b sz off len ag lo hi mx la z zm k k' hx hT hE cI se jf hmx h1 h2 h3 nt =>
  have e1:=dE x cX;rw[hx]at e1;have e3:=e1.2 rfl;simp only[aH]at e3;rcases e3 with⟨_,e3⟩|⟨id,cap,c,U,fz,q1,q2,q3,q4,q5⟩
  ·omega
  simp only[iF,and_true]at q1;have g1:=dE z cX;rw[jf]at g1;have g2:=dE zm cX;rw[hmx]at g2;have hb:=aI7 (P:=P) (w:=w) len cap (la.map a.eval) lo hi mx k k'
   (fun y hy=>by
    cases la with
    |none=>simp at hy
    |some z =>
     simp only[uh,gj]at hy;obtain⟨k,hk⟩:=cI z rfl;have:=dE z cX;rw[hk]at this;exact⟨k,by rw[<-hy];exact this.iO⟩)
   (fun h=>se mA) h1 h2 J
  have iA:(Instr.sliceAt T (.slice (some ⟨id,off*sz,none⟩) len cap) (la.map a.eval) (some (a.eval z)) (some (a.eval zm))).run P w =
    .ok (.slice (if mx=lo then some ⟨id,off*sz,none⟩else some ⟨id,off*sz+lo*sz,none⟩) (hi-lo) (mx-lo)) w:=by
   rw[g1.iO,g2.iO];simp only[Instr.sliceAt,Sem.run_bind,run_underlying hT,Result.andThen_ok,Instr.slice,hb,run_sizeOf hE,Sem.run_pure,uh,Addr.add_mid]
  refine⟨_,by simp only[execOp,q1,uh,Sem.run_bind,iA];rfl,⟨by simp[LV.isAgg],fun _=>?_⟩⟩;simp only[aH];have ju:¬mx=lo:=J;refine .inr ⟨id,mx-lo,c,U,fz,by simp[ju,iV],q2,J,q4,?_⟩;have:off+lo+(mx-lo)=off+mx:=J;rw[this];exact Nat.le_trans (Nat.mul_le_mul_right _ J) q5
 | @abC T x sz l d as hx has hT =>
  have e1:=dE x mB;rw[hx]at e1;have e3:=e1.2 rfl;simp only[aH]at e3;obtain⟨ad,len,cap,q1,q2,_⟩:=e3;simp only[iF,and_true]at q1;subst has;exact⟨.int .i64 (l.length:Nat),by simp[execOp,resolve,invoke,builtin,q1,Builtin.len_,run_underlying hT,goInt,q2],bJ.int⟩
 | @acx T x b sz off len d as hx has hT =>
  have e1:=dE x mB;rw[hx]at e1;have e3:=e1.2 rfl;simp only[aH]at e3;subst has;rcases e3 with⟨q1,rfl⟩|⟨id,cap,c,U,fz,q1,_⟩
  ·simp only[iF,and_true]at q1;exact⟨.int .i64 (0:Nat),by simp[execOp,resolve,invoke,builtin,q1,Builtin.len_,run_underlying hT,goInt],bJ.int⟩
  simp only[iF,and_true]at q1;exact⟨.int .i64 (len:Nat),by simp[execOp,resolve,invoke,builtin,q1,Builtin.len_,run_underlying hT,goInt],bJ.int⟩
 | @acD T x b sz off len cp d as hx has hT =>
  have e1:=dE x mB;rw[hx]at e1;have e3:=e1.2 rfl;simp only[aH]at e3;subst has;obtain⟨id,c,U,fz,q1,_⟩:=e3;simp only[iF,and_true]at q1;exact⟨.int .i64 (len:Nat),by simp[execOp,resolve,invoke,builtin,q1,Builtin.len_,run_underlying hT,goInt],bJ.int⟩
 | @ags T x b sz off len cp d as hx has hT =>
  have e1:=dE x mB;rw[hx]at e1;have e3:=e1.2 rfl;simp only[aH]at e3;subst has;obtain⟨id,c,U,fz,q1,_⟩:=e3;simp only[iF,and_true]at q1;exact⟨.int .i64 (cp:Nat),by simp[execOp,resolve,invoke,builtin,q1,Builtin.cap_,run_underlying hT,goInt],bJ.int⟩
 | @af8 T E x b sz off len cp ag lo hi la ha hx hT hE cI se jf vO h1 h2 nt =>
  have e1:=dE x cX;rw[hx]at e1;have e3:=e1.2 rfl;simp only[aH]at e3;obtain⟨id,c,U,fz,q1,q2,q3,q4,q5⟩:=e3;simp only[iF,and_true]at q1;have hb:=ari (P:=P) (w:=w) true len cp (la.map a.eval) (ha.map a.eval) lo hi
   (fun y hy=>by
    cases la with
    |none=>simp at hy
    |some z =>
     simp only[uh,gj]at hy;obtain⟨k,hk⟩:=cI z rfl;have:=dE z cX;rw[hk]at this;exact⟨k,by rw[<-hy];exact this.iO⟩)
   (fun h=>se mA)
   (fun y hy=>by
    cases ha with
    |none=>simp at hy
    |some z =>
     simp only[uh,gj]at hy;obtain⟨k,hk⟩:=jf z rfl;have:=dE z cX;rw[hk]at this;exact⟨k,by rw[<-hy];exact this.iO⟩)
   (fun h=>vO mA) h1 h2
  have iA:(Instr.sliceAt T (.slice (some ⟨id,off*sz,none⟩) len cp) (la.map a.eval) (ha.map a.eval) none).run P w =
    .ok (.slice (if cp=lo then some ⟨id,off*sz,none⟩else some ⟨id,off*sz+lo*sz,none⟩) (hi-lo) (cp-lo)) w:=by
   simp only[Instr.sliceAt,Sem.run_bind,run_underlying hT,Result.andThen_ok,Instr.slice,hb,run_sizeOf hE,Sem.run_pure,uh,Addr.add_mid]
  refine⟨_,by simp only[execOp,q1,aqe,Sem.run_bind,iA];rfl,⟨by simp[LV.isAgg],fun _=>?_⟩⟩;simp only[aH];have ju:¬cp=lo:=J;refine⟨id,c,U,fz,by simp[ju,iV],q2,J,q4,?_⟩;have:off+lo+(cp-lo)=off+cp:=J;rw[this];exact q5
 | @ab9 T x d as hx has hT =>
  have e1:=dE x mB;rw[hx]at e1;have e1:=e1.iO;subst has;exact⟨.int .i64 (0:Nat),by simp[execOp,resolve,invoke,builtin,e1,Builtin.len_,run_underlying hT,goInt],bJ.int⟩
 | @min2 x y k i j as hx hy =>
  have e1:=dE x mB;rw[hx]at e1;have e1:=e1.iO;have e2:=dE y mB;rw[hy]at e2;have e2:=e2.iO;exact⟨.int k (if j<i then j else i),by simp[execOp,resolve,invoke,builtin,e1,e2,Builtin.min_,Builtin.min2],bJ.int⟩
 | @max2 x y k i j as hx hy =>
  have e1:=dE x mB;rw[hx]at e1;have e1:=e1.iO;have e2:=dE y mB;rw[hy]at e2;have e2:=e2.iO;exact⟨.int k (if j > i then j else i),by simp[execOp,resolve,invoke,builtin,e1,e2,Builtin.max_,Builtin.max2],bJ.int⟩
 | @akc T x i s k n b hx hT hi h0 hb =>
  have e1:=dE x cX;rw[hx]at e1;have e1:=e1.iO;have e2:=dE i cX;rw[hi]at e2;have e2:=e2.iO;exact⟨.int .u8 b.toNat,by simp[execOp,e1,e2,Instr.index,asIntOf,run_underlying hT,h0,hb],bJ.int⟩
 | @acN f xs as fn e vs r1 r2 hf ta hb hn he hx hr h1 h2 =>
  have hargs:xs.map a.eval=vs.toArray:=by
   apply y6;rw[Array.toList_map];have:∀(l:List Operand) (vs:List Value),l.map ρ=vs.map LV.v->(∀x∈l,bJ Z μ w (ρ x) (a.eval x))->l.map a.eval=vs:=by
    intro l
    induction l with
    |nil =>
         intro vs h _;cases vs with
         |nil=>rfl
         |cons=>simp at h
    |cons y ys ih =>
     intro vs h hr
     cases vs with
     |nil=>simp at h
     |cons v vs =>
      simp only[nK,iF]at h ⊢;have h3:=hr y aE;rw[h.1]at h3;exact⟨h3.iO,ih vs h.2 (fun z hz=>hr z (by simp[hz]))⟩
   exact this xs.toList vs hx (fun x hx=>dE x (by simp[Op.operands,Call.operands];right;simpa using hx))
  have hc:=run_callFunc_extern (P:=P) (args:=vs.toArray) hf ta hb hn he w;refine⟨.tuple #[r1,r2],?_,⟨#[r1,r2],rfl,?_⟩⟩
  ·rw[hr w]at hc;simp only[execOp,resolve,Act.eval,Deferred.ofValue,Sem.run_bind,Sem.run_pure,Result.andThen_ok,invoke];rw[hargs];simp only[Array.append_empty,Array.empty_append];rw[hc];rfl
  exact⟨r1,[r2],rfl,⟨by simp[LV.isAgg],fun _=>by simp[aH,h1]⟩,r2,[],rfl,⟨by simp[LV.isAgg],fun _=>by simp[aH,h2]⟩,rfl⟩
 | @aci T E zs ps n sz ag hT hE hf hz hp =>
  have hm:∀p∈ps.toList,bJ Z μ w (ρ p.2) (a.eval p.2):=fun p hp=>dE p.2 (by simp[Op.operands];exact⟨p.1,by simpa using hp⟩);obtain⟨v,h1,h2⟩:=aEX (P:=P) (Z:=Z) (μ:=μ) (w:=w) (a:=a) hT hE hf hz hp hm;exact⟨v,by simp only[execOp];rw[Sem.run_bind,h1];rfl,h2⟩
 | @build T zs ps hT hz hp =>
  have hm:∀p∈ps.toList,bJ Z μ w (ρ p.2) (a.eval p.2):=fun p hp=>dE p.2 (by simp[Op.operands];exact⟨p.1,by simpa using hp⟩);obtain⟨v,h1,h2⟩:=aLU (P:=P) (Z:=Z) (μ:=μ) (w:=w) (a:=a) hT hz hp hm;exact⟨v,by simp only[execOp];rw[Sem.run_bind,h1];rfl,h2⟩
end
end Go.Lg
namespace Go.Lg
def cd.le(H H':cd):Prop:=∀b blk,H b=some blk->∃m,H' b=some ⟨blk.sz,blk.vals,m⟩/\(blk.mt=false->m=false)/\(blk.mt=true->m=false->b≠0)
def sQ(μ:Nat->Option Nat)(d id:Nat):Nat->Option Nat:=fun b=>if b=d then some id else μ b
section
variable {P:Program} {W w w':World} {X:XS} {Z0 Z:Nat->Prop} {μ:Nat->Option Nat} {H:cd}
theorem xd.mono{Z':Nat->Prop}{bE:Nat->Option Nat}{blk:aV}{id:Nat}(hz:∀id,Z id->Z' id)(hm:∀b id,μ b=some id->bE b=some id)(hf:Frame Z μ w w')
  (hid:w'.heap[id]?=w.heap[id]?) (h:xd Z μ w blk id):xd Z' bE w' blk id:=by
 obtain⟨c,T,part,rest,h1,h2,h3⟩:=h;exact⟨c,T,part,rest,hid.trans h1,h2,h3.mono hz hm hf⟩
theorem Core.lt(hc:Core W X Z0 μ Z H w){b id:Nat}(h:μ b=some id):id<w.heap.size:=by
 obtain⟨blk,_,c,T,part,rest,h1,_⟩:=hc.heap b id h;exact(lX.1 h1).1
theorem Core.adk{H':cd}(hc:Core W X Z0 μ Z H w)(hle:H.le H'):∃Z',Core W X Z0 μ Z' H' w/\(∀id,Z id->Z' id):=by
 refine⟨fun id=>Z id\/∃b blk,μ b=some id/\H' b=some blk/\blk.mt=false,⟨hc.cV,?_,fun id h=>.inl (hc.kU id h),?_,hc.inj,hc.own,hc.x0,hc.pY,hc.x1,?_,fun b id blk h1 h2 h3=>.inr ⟨b,blk,h1,h2,h3⟩,?_⟩,fun id h=>.inl h⟩
 ·rintro id (h|⟨b,blk,h,_⟩)
  ·exact hc.m9 id h
  exact hc.lt h
 ·rintro id (h|⟨b,blk,h,h2,h3⟩)
  ·exact hc.nc id h
  obtain⟨xf,g1,_⟩:=hc.heap b id h;obtain⟨m,g2,g3,g4⟩:=hle b xf g1;rw[g2]at h2;cases h2;simp only at h3;subst h3
  cases hm:xf.mt with
  |false=>exact hc.nc id (hc.b9 b id xf h g1 hm)
  |true =>
   rcases hc.own b id h with h|h'|h'
   ·exact .inr (.inl h)
   ·exact absurd (hc.x0 b id h h') (g4 hm rfl)
   exact .inr (.inr h')
 ·rintro b id blk h1 h2 h3 (h|⟨b',blk',h4,h5,h6⟩)
  ·obtain⟨xf,g1,_⟩:=hc.heap b id h1;obtain⟨m,g2,g3,_⟩:=hle b xf g1;rw[g2]at h2;cases h2
   cases hm:xf.mt with
   |false=>have:=g3 hm;subst this;simp at h3
   |true=>exact hc.ku b id xf h1 g1 hm h
  have:=hc.inj b b' id h1 h4;subst this;rw[h2]at h5;cases h5;simp[h3]at h6
 intro b id h;obtain⟨blk,g1,g2⟩:=hc.heap b id h;obtain⟨m,g3,_⟩:=hle b blk g1;refine⟨_,g3,?_⟩;obtain⟨c,T,part,rest,h1,h2,h3⟩:=g2;exact⟨c,T,part,rest,h1,h2,h3.mono (fun id h=>.inl h) (fun _ _ h=>h) (Frame.refl _ _ _) |>.mono (fun _ h=>h) (fun _ _ h=>h) ⟨fun _ _=>rfl,(Frame.refl Z μ w).m⟩⟩
structure vZ (w w':World) (o:Obj):Prop where
 os:w'.os=w.os
 tape:w'.tape=w.tape
 output:w'.output=w.output
 heap:w'.heap=w.heap.push o
theorem vZ.old{o:Obj}(h:vZ w w' o){k:Nat}(hk:k<w.heap.size):w'.heap[k]?=w.heap[k]?:=by
 rw[h.heap,Array.getElem?_push,if_neg J]
theorem vZ.new{o:Obj}(h:vZ w w' o):w'.heap[w.heap.size]?=some o:=by
 rw[h.heap];simp
theorem vZ.alloc(w:World)(o:Obj):vZ w (w.alloc o) o:=⟨rfl,rfl,rfl,rfl⟩
theorem Core.aAK(hc:Core W X Z0 μ Z H w)(hold:∀k,k<w.heap.size->w'.heap[k]?=w.heap[k]?):Frame Z μ w w' :=
 ⟨fun id h=>hold id (hc.m9 id h),fun _ id h c _ _ hh=>⟨c,(hold id (hc.lt h)).trans hh,rfl⟩⟩
theorem Core.push{d:Nat}{blk:aV}{c:Array Value}{T:TypeId}{part rest:List Value}(hc:Core W X Z0 μ Z H w)(hd:H d=some blk)(vT:μ d=none)
  (hp:vZ w w' (.cells c T (0,0))) (h1:c.toList=part++rest) (h2:aT Z μ w blk.sz blk.vals part) :
  ∃Z',Core W X Z0 (sQ μ d w.heap.size) Z' H w'/\(∀id,Z id->Z' id)/\(∀b id,μ b=some id->sQ μ d w.heap.size b=some id)/\Frame Z μ w w' /\
   sQ μ d w.heap.size d=some w.heap.size/\w'.heap[w.heap.size]?=some (.cells c T (0,0)):=by
 have hup:∀b id,μ b=some id->sQ μ d w.heap.size b=some id:=fun b id h=>by
  unfold sQ;split
  ·subst_vars;rw[vT]at h;cases h
  exact h
 have eM:=hc.aAK (fun k hk=>hp.old hk);have hinv:∀b id,sQ μ d w.heap.size b=some id->(b=d/\id=w.heap.size)\/(b≠d/\μ b=some id):=fun b id h=>by
  unfold sQ at h;split at h
  ·cases h;exact .inl ⟨by assumption,rfl⟩
  exact .inr ⟨by assumption,h⟩
 have hzz:∀id,Z id->(Z id\/(blk.mt=false/\id=w.heap.size)):=fun id h=>.inl h;refine⟨fun id=>Z id\/(blk.mt=false/\id=w.heap.size),⟨?_,?_,fun id h=>.inl (hc.kU id h),?_,?_,?_,?_,hc.pY,fun id h=>hup 0 id (hc.x1 id h),?_,?_,?_⟩,hzz,hup,eM,by simp[sQ],hp.new⟩
 ·exact⟨hp.os.trans hc.cV.os,hp.tape.trans hc.cV.tape,hp.output.trans hc.cV.output,by rw[hp.heap,amW];have:=hc.cV.size;omega,
   fun k hk hx=>(hp.old (by have:=hc.cV.size;omega)).trans (hc.cV.block k hk hx),
   fun k hx c T fz h=>let ⟨c',g1,g2⟩:=hc.cV.yl k hx c T fz h;⟨c',(hp.old (lX.1 g1).1).trans g1,g2⟩⟩
 ·rintro id (h|⟨_,rfl⟩)
  ·have:=hc.m9 id h;rw[hp.heap,amW];omega
  rw[hp.heap,amW];omega
 ·rintro id (h|⟨_,rfl⟩)
  ·exact hc.nc id h
  exact .inr (.inl hc.cV.size)
 ·intro b b' id h h';rcases hinv b id h with⟨rfl,rfl⟩|⟨n1,h1⟩<;>rcases hinv b' _ h' with⟨rfl,e⟩|⟨n2,h2⟩
  ·rfl
  ·have:=hc.lt h2;omega
  ·have:=hc.lt h1;omega
  exact hc.inj b b' id h1 h2
 ·intro b id h;rcases hinv b id h with⟨rfl,rfl⟩|⟨n1,h1⟩
  ·exact .inl hc.cV.size
  exact hc.own b id h1
 ·intro b id h hx;rcases hinv b id h with⟨rfl,rfl⟩|⟨n1,h1⟩
  ·have:=hc.pY _ (.inl hx);have:=hc.cV.size;omega
  exact hc.x0 b id h1 hx
 ·rintro b id bk h hb hm (hz|⟨ri,rfl⟩)
  ·rcases hinv b id h with⟨rfl,rfl⟩|⟨n1,h1⟩
   ·have:=hc.m9 _ hz;omega
   exact hc.ku b id bk h1 hb hm hz
  rcases hinv b _ h with⟨rfl,_⟩|⟨n1,h1⟩
  ·rw[hd]at hb;cases hb;simp[hm]at ri
  have:=hc.lt h1;omega
 ·intro b id bk h hb hm;rcases hinv b id h with⟨rfl,rfl⟩|⟨n1,h1⟩
  ·rw[hd]at hb;cases hb;exact .inr ⟨hm,rfl⟩
  exact .inl (hc.b9 b id bk h1 hb hm)
 intro b id h;rcases hinv b id h with⟨rfl,rfl⟩|⟨n1,h3⟩
 ·exact⟨blk,hd,c,T,part,rest,hp.new,h1,h2.mono hzz hup eM⟩
 obtain⟨bk,g1,g2⟩:=hc.heap b id h3;exact⟨bk,g1,g2.mono hzz hup eM (hp.old (hc.lt h3))⟩
end
mutual
inductive dt (H:cd):LV->LV->Prop
 |pure {x} (h:x.pure=true):dt H x x
 |nil (sz):dt H (.v (.slice none 0 0)) (.list sz [])
 |ref {b sz off len blk} (hb:H b=some blk) (hs:blk.sz=sz) (hp:aO blk.vals=true) (hl:off+len<=blk.vals.length) (hf:blk.mt=false) :
   dt H (.ref b sz off len) (.list sz ((blk.vals.drop off).take len))
 |aB {b sz i o blk x y n ag} (hb:H b=some blk) (hs:blk.sz=sz) (hi:blk.vals[i]?=some x) (hx:x.aq=sz) (hy:x.at o n ag=some y) (hp:y.pure=true) (hf:blk.mt=false) :
   dt H (.aB b sz i o) (.cx y)
 |ajN {b sz off len blk l'} (hb:H b=some blk) (hs:blk.sz=sz) (hl:off+len<=blk.vals.length) (hf:blk.mt=false) (h:gR H ((blk.vals.drop off).take len) l'):dt H (.ref b sz off len) (.list sz l')
 |agg {l l'} (h:gR H l l'):dt H (.agg l) (.agg l')
inductive gR (H:cd):List LV->List LV->Prop
 |nil:gR H [] []
 |cons {x y xs ys} (h:dt H x y) (t:gR H xs ys):gR H (x::xs) (y::ys)
end
section
variable {W w:World} {X:XS} {Z0 Z:Nat->Prop} {μ bE:Nat->Option Nat} {H H':cd}
mutual
theorem dt.lay:∀{x y:LV},dt H x y->y.isAgg=x.isAgg/\y.aq=x.aq/\y.pure=true
 |_,_,.pure h=>⟨rfl,rfl,h⟩
 |_,_,.nil _=>⟨rfl,rfl,rfl⟩
 |_,_,.ref hb hs hp hl hf=>⟨rfl,rfl,by
   simp only[LV.pure];rw[aaX]at hp ⊢;exact fun x hx=>hp x (yF (yJ hx))⟩
 |_,_,.aB hb hs hi hx hy hp hf=>⟨rfl,rfl,by simpa[LV.pure]using hp⟩
 |_,_,.ajN hb hs hl hf h=>⟨rfl,rfl,by simpa[LV.pure]using (gR.lay h).2⟩
 |_,_,.agg h=>by
   have:=gR.lay h;exact⟨rfl,by simp[LV.aq,this.1],by simp[LV.pure,this.2]⟩
theorem gR.lay:∀{x y:List LV},gR H x y->dg y=dg x/\aO y=true
 |_,_,.nil=>⟨rfl,rfl⟩
 |_,_,.cons h t=>by
   have h1:=dt.lay h;have h2:=gR.lay t;exact⟨by simp[dg,h1.2.1,h2.1],by simp[aO,h1.2.2,h2.2]⟩
end
theorem gR.len:∀{x y:List LV},gR H x y->y.length=x.length
 |_,_,.nil=>rfl
 |_,_,.cons _ t=>by simp[gR.len t]
mutual
theorem dt.sound(hc:Core W X Z0 μ Z H w):∀{x y:LV} {cs:List Value},dt H x y->aH Z μ w x cs->aH Z bE w y cs
 |_,_,_,.pure h,hr=>aH.lS (fun _ h=>h) (fun _ _=>rfl) _ _ h hr
 |_,_,_,.nil sz,hr=>by
   simp only[aH]at hr ⊢;exact⟨none,0,0,hr.1,rfl,bF _,.inl trivial,rfl⟩
 |_,_,_,@dt.ref _ b sz off len blk hb hs hp hl hf,hr=>by
   simp only[aH]at hr ⊢;rcases hr with⟨hr,rfl⟩|⟨id,cap,c,T,fz,h1,h2,h3,h4,h5⟩
   ·exact⟨none,0,0,hr,by simp,bF _,.inl aE,by simp[aO]⟩
   obtain⟨blk',g1,c',T',part,rest,g2,g3,g4⟩:=hc.heap b id h2;rw[hb]at g1;cases g1;rw[h4]at g2;cases g2;refine⟨_,_,_,h1,by simp;omega,h3,?_,(aaX _).2 fun x hx=>(aaX _).1 hp x (yF (yJ hx))⟩;have hz:=hc.b9 b id blk h2 hb hf;right;obtain⟨c1,c2,d1,d2,d3⟩:=aT.split (blk.vals.take off) (blk.vals.drop off) part aef;obtain⟨c3,c4,d4,d5,d6⟩:=aT.split ((blk.vals.drop off).take len) ((blk.vals.drop off).drop len) c2 (by rw[ur];exact d3);have lr:=aT.length _ _ d2;rw[fH,nM J,hs]at lr;refine⟨id,off*sz,c,T,(0,0),c3,c4++rest,rfl,hz,h4,?_,?_⟩
   ·rw[g3,d1,d4,<-lr];simp
   rw[hs]at d5;refine aT.lS (fun _ h=>h) (fun _ _=>rfl) _ _ _ ?_ d5;rw[aaX]at hp ⊢;exact fun x hx=>hp x (yF (yJ hx))
 |_,_,_,@dt.aB _ b sz i o blk x y n ag hb hs hi hx hy hp hf,hr=>by
   simp only[aH]at hr ⊢;obtain⟨id,h1,h2⟩:=hr;obtain⟨blk',g1,c,T,part,rest,g2,g3,g4⟩:=hc.heap b id h2;rw[hb]at g1;cases g1;have hz:=hc.b9 b id blk h2 hb hf;obtain⟨ch,post,k1,k2,k3⟩:=aqD (off:=0) (by simpa using g3) g4 hi;obtain⟨pre,yp,yR,j1,j2,j3,j4,j5,j6,j7,j8⟩:=LV.amY x o n ag y ch hy k3 (by rw[k2,hs,hx]);refine⟨id,_,c,T,(0,0),yp,yR++post,h1,hz,g2,?_,by rw[j3,j6],aH.lS (fun _ h=>h) (fun _ _=>rfl) _ _ hp j4,hp⟩;rw[fZ,hs]at k1;rw[<-rZ,k1,j1,<-j2];simp
 |_,_,_,@dt.ajN _ b sz off len blk l' hb hs hl hf h,hr=>by
   simp only[aH]at hr ⊢;have hll:=gR.len h;have vA:=(gR.lay h).2;rw[fH,List.length_drop,nM J]at hll;rcases hr with⟨hr,rfl⟩|⟨id,cap,c,T,fz,h1,h2,h3,h4,h5⟩
   ·exact⟨none,0,0,hr,hll.symm,bF _,.inl (List.length_eq_zero_iff.1 hll),vA⟩
   obtain⟨blk',g1,c',T',part,rest,g2,g3,g4⟩:=hc.heap b id h2;rw[hb]at g1;cases g1;rw[h4]at g2;cases g2;refine⟨_,_,_,h1,hll.symm,h3,?_,vA⟩;have hz:=hc.b9 b id blk h2 hb hf;right;obtain⟨c1,c2,d1,d2,d3⟩:=aT.split (blk.vals.take off) (blk.vals.drop off) part aef;obtain⟨c3,c4,d4,d5,d6⟩:=aT.split ((blk.vals.drop off).take len) ((blk.vals.drop off).drop len) c2 (by rw[ur];exact d3);have lr:=aT.length _ _ d2;rw[fH,nM J,hs]at lr;refine⟨id,off*sz,c,T,(0,0),c3,c4++rest,rfl,hz,h4,?_,?_⟩
   ·rw[g3,d1,d4,<-lr];simp
   rw[hs]at d5;exact gR.ayb hc h d5
 |_,_,_,.agg h,hr=>by
   simp only[aH]at hr ⊢;exact gR.sound hc h hr
theorem gR.sound(hc:Core W X Z0 μ Z H w):∀{x y:List LV} {cs:List Value},gR H x y->cP Z μ w x cs->cP Z bE w y cs
 |_,_,_,.nil,hr=>by simpa[cP]using hr
 |_,_,_,.cons h t,hr=>by
   simp only[cP]at hr ⊢;obtain⟨c1,c2,rfl,h2,h3,h4⟩:=hr;exact⟨c1,c2,rfl,by rw[h2,(dt.lay h).2.1],dt.sound hc h h3,gR.sound hc t h4⟩
theorem gR.ayb(hc:Core W X Z0 μ Z H w){sz:Nat}:∀{x y:List LV} {cs:List Value},gR H x y->aT Z μ w sz x cs->aT Z bE w sz y cs
 |_,_,_,.nil,hr=>by simpa[aT]using hr
 |_,_,_,.cons h t,hr=>by
   simp only[aT]at hr ⊢;obtain⟨c1,c2,rfl,h2,h3,h4⟩:=hr;exact⟨c1,c2,rfl,h2,dt.sound hc h h3,gR.ayb hc t h4⟩
end
mutual
theorem dt.le(hle:H.le H'):∀{x y:LV},dt H x y->dt H' x y
 |_,_,.pure h=>.pure h
 |_,_,.nil sz=>.nil sz
 |_,_,.ref hb hs hp hl hf=>by
   obtain⟨m,g1,g2,_⟩:=hle _ _ hb;exact dt.ref (blk:=⟨_,_,m⟩) g1 hs hp hl (g2 hf)
 |_,_,.aB hb hs hi hx hy hp hf=>by
   obtain⟨m,g1,g2,_⟩:=hle _ _ hb;exact dt.aB (blk:=⟨_,_,m⟩) g1 hs hi hx hy hp (g2 hf)
 |_,_,.ajN hb hs hl hf h=>by
   obtain⟨m,g1,g2,_⟩:=hle _ _ hb;exact dt.ajN (blk:=⟨_,_,m⟩) g1 hs hl (g2 hf) (gR.le hle h)
 |_,_,.agg h=>.agg (gR.le hle h)
theorem gR.le(hle:H.le H'):∀{x y:List LV},gR H x y->gR H' x y
 |_,_,.nil=>.nil
 |_,_,.cons h t=>.cons (dt.le hle h) (gR.le hle t)
end
theorem dt.ne{x y:LV}(h:dt H x y):x≠.any/\∀l,x≠.aY l:=by
 cases h with
 |pure h=>exact⟨LV.fJ h,LV.fh h⟩
 |_=>exact⟨by simp,by simp⟩
theorem dt.agD(hc:Core W X Z0 μ Z H w){x y:LV}{v:Value}(h:dt H x y)(hr:bJ Z μ w x v):g8 Z bE w y v:=by
 have h1:=bJ.to1 h.ne.2 h.ne.1 hr;obtain⟨e1,_,_⟩:=h.lay;exact⟨fun e=>let ⟨cs,g1,g2⟩:=h1.1 (e1▸e);⟨cs,g1,dt.sound hc h g2⟩,fun e=>dt.sound hc h (h1.2 (e1▸e))⟩
end
end Go.Lg
end
