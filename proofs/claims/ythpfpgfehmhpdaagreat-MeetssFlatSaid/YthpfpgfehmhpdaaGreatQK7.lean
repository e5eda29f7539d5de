/- Texts Z15, Z16, Z19, Z17, Z18 of this proof, joined. -/
import Derived.Test.YthpfpgfehmhpdaaGreatQK6
set_option linter.unusedVariables false
set_option linter.unusedSimpArgs false
section
set_option linter.unusedVariables false
set_option linter.unusedSimpArgs false
set_option maxHeartbeats 8000000
set_option maxRecDepth 100000
attribute [local irreducible] Go.Lg.opsL Go.Lg.wpL Go.Lg.thenL Go.Lg.blockL
namespace Go.Proofs.YthpfpgfehmhpdaaGreat
open Go.Lg
namespace H_c_MeetP
theorem zSm {p q:Prop} (k:q) (e:p=q:=by simp only [e1,e2,e3,e4,p1,p2,p3,q1,q2,q3,l1,t0,t1,r1,r2,r3,r4,Nat.zero_add,Nat.reduceMul,Nat.reduceAdd,b1,b2,b3,b4,b5,b6,i1,i2,i3,i4,i5,i6,Nat.reduceBEq,prcL,hc5,hc7,fz0,frz_c,List.getD_cons_zero,List.getD_cons_succ,List.length_map,take_map_len,map_snoc,len_snoc,List.length_cons,List.length_nil,List.nil_append,List.map_nil,List.take_nil,List.append_nil,kills_map spE,prL_kill,kills_map prE,dfr,dfq,take_map_len,map_snoc,len_snoc,List.length_cons,List.length_nil,List.nil_append,List.map_nil,List.take_nil,List.append_nil,List.set_cons_zero,List.set_cons_succ,Nat.reduceEqDiff,reduceIte,if_true,if_false,ptL_kill,poL_kill,kills_map ptE,kills_map poE,kills_map ratE,ratL_kill,spL_kill,LV.kill,kills];exact rfl):p:=e.mpr k
end H_c_MeetP
open H_c_MeetP in
theorem c_MeetP (U V W Y:Nat) (ua ub va vb xa xb ya yb:Rat) (rows rowt:List (List PoR)) (d w:Nat) (hd:d≤24) (hw:1≤w) (hw2:w≤4096) (hu:ua<ub) (hv:va<vb) (hx:xa<xb) (hy:ya<yb) (z1:rl ua≤64) (z2:rl ub≤64) (z3:rl va≤64) (z4:rl vb≤64) (z5:rl xa≤64) (z6:rl xb≤64) (z7:rl ya≤64) (z8:rl yb≤64) (hP1:CallP Tryz.prog 33 [.agg [nI64 U,nI64 V,.list 3 ((kn2 U ua ub).map ratL),.list 3 ((kn2 V va vb).map ratL),.list 1 (rows.map prL)]] (.list 5 [.agg [nI64 U,nI64 V,.list 3 ((kn2 U ua ub).map ratL),.list 3 ((kn2 V va vb).map ratL),.list 1 (rows.map prL)]])) (hP2:CallP Tryz.prog 33 [.agg [nI64 W,nI64 Y,.list 3 ((kn2 W xa xb).map ratL),.list 3 ((kn2 Y ya yb).map ratL),.list 1 (rowt.map prL)]] (.list 5 [.agg [nI64 W,nI64 Y,.list 3 ((kn2 W xa xb).map ratL),.list 3 ((kn2 Y ya yb).map ratL),.list 1 (rowt.map prL)]])) (hDo1:CallP Tryz.prog 34 [.agg [nI64 U,nI64 V,.list 3 ((kn2 U ua ub).map ratL),.list 3 ((kn2 V va vb).map ratL),.list 1 (rows.map prL)]] (.tup [spL (ua,ub),spL (va,vb)])) (hDo2:CallP Tryz.prog 34 [.agg [nI64 W,nI64 Y,.list 3 ((kn2 W xa xb).map ratL),.list 3 ((kn2 Y ya yb).map ratL),.list 1 (rowt.map prL)]] (.tup [spL (xa,xb),spL (ya,yb)])) (K:Nat) (hLk:CallP Tryz.prog 36 ([.list 6 ([(ua,ub),(va,vb)].map spL),.list 6 ([(xa,xb),(ya,yb)].map spL)]++([.boxp (.agg [nI64 U,nI64 V,.list 3 ((kn2 U ua ub).map ratL),.list 3 ((kn2 V va vb).map ratL),.list 1 (rows.map prL)]),.boxp (.agg [nI64 W,nI64 Y,.list 3 ((kn2 W xa xb).map ratL),.list 3 ((kn2 Y ya yb).map ratL),.list 1 (rowt.map prL)])]:List LV)) (.agg [.v (.bool false),iL 4,nI64 K])):CallP Tryz.prog 11 [.agg [nI64 U,nI64 V,.list 3 ((kn2 U ua ub).map ratL),.list 3 ((kn2 V va vb).map ratL),.list 1 (rows.map prL)],.agg [nI64 W,nI64 Y,.list 3 ((kn2 W xa xb).map ratL),.list 3 ((kn2 Y ya yb).map ratL),.list 1 (rowt.map prL)],prcL d w] (.tup [.list 4 [celL [(ua,ub),(va,vb)] [(xa,xb),(ya,yb)] 4 K],iL 0]):=by
 have hsp:LV.pure (.agg [nI64 U,nI64 V,.list 3 ((kn2 U ua ub).map ratL),.list 3 ((kn2 V va vb).map ratL),.list 1 (rows.map prL)])=true:=by simp [LV.pure,pures,pures_map ratE,pures_map prE]
 have htp:LV.pure (.agg [nI64 W,nI64 Y,.list 3 ((kn2 W xa xb).map ratL),.list 3 ((kn2 Y ya yb).map ratL),.list 1 (rowt.map prL)])=true:=by simp [LV.pure,pures,pures_map ratE,pures_map prE]
 have hc5:(LV.agg [nI64 d,nI64 w,ratL 0]).csize=5:=by simp [LV.csize,csizes,ratE.csize]
 have hc7:(LV.agg [.agg [nI64 d,nI64 w,ratL 0],.v (.slice none 0 0),.v (.int .i64 0)]).csize=7:=by simp [LV.csize,csizes,ratE.csize]
 have hcp:pures ([.boxp (.agg [nI64 U,nI64 V,.list 3 ((kn2 U ua ub).map ratL),.list 3 ((kn2 V va vb).map ratL),.list 1 (rows.map prL)]),.boxp (.agg [nI64 W,nI64 Y,.list 3 ((kn2 W xa xb).map ratL),.list 3 ((kn2 Y ya yb).map ratL),.list 1 (rowt.map prL)])]:List LV)=true:=by simp [pures,LV.pure,pures_map ratE,pures_map prE]
 have hcs:∀ x∈([.boxp (.agg [nI64 U,nI64 V,.list 3 ((kn2 U ua ub).map ratL),.list 3 ((kn2 V va vb).map ratL),.list 1 (rows.map prL)]),.boxp (.agg [nI64 W,nI64 Y,.list 3 ((kn2 W xa xb).map ratL),.list 3 ((kn2 Y ya yb).map ratL),.list 1 (rowt.map prL)])]:List LV),x.csize=1∧x.isAgg=false:=fun x hx=>by
  simp only [List.mem_cons,List.not_mem_nil,or_false] at hx
  rcases hx with e | e<;>rw [e]<;>exact⟨rfl,rfl⟩
 have hpr:=prcL_pure d w
 have hVa:=c_sVal d w hd hw2
 have hpA:pures [spL (ua,ub),spL (va,vb)]=true:=by simp [pures,spE.pure]
 have hpB:pures [spL (xa,xb),spL (ya,yb)]=true:=by simp [pures,spE.pure]
 have hbA:∀ s∈[(ua,ub),(va,vb)],bdS 1000000 s∧s.1≤s.2:=fun s hs=>by
  simp only [List.mem_cons,List.not_mem_nil,or_false] at hs
  rcases hs with rfl | rfl
  ·exact⟨⟨by show rl ua≤_;omega,by show rl ub≤_;omega⟩,by show ua≤ub;grind⟩
  ·exact⟨⟨by show rl va≤_;omega,by show rl vb≤_;omega⟩,by show va≤vb;grind⟩
 have hbB:∀ s∈[(xa,xb),(ya,yb)],bdS 1000000 s∧s.1≤s.2:=fun s hs=>by
  simp only [List.mem_cons,List.not_mem_nil,or_false] at hs
  rcases hs with rfl | rfl
  ·exact⟨⟨by show rl xa≤_;omega,by show rl xb≤_;omega⟩,by show xa≤xb;grind⟩
  ·exact⟨⟨by show rl ya≤_;omega,by show rl yb≤_;omega⟩,by show ya≤yb;grind⟩
 have hpcn:LV.pure (.list 4 [celL [(ua,ub),(va,vb)] [(xa,xb),(ya,yb)] 4 K])=true:=by simp [LV.pure,pures,celL,pures_map spE,spE.pure]
 refine fnP Tryz.func11 (ht:=(tame2 (by simp [LV.pure,pures,celL,pures_map spE,spE.pure]) rfl)) ?_
 refine zg13 ?_
 refine st_callP rfl (.cons (.pure hpr) .nil) (hVa) ?_
 refine zg3 ?_
 refine wl_condY (b:=_) rfl (rfl) ?_
 refine zg5 ?_
 refine st_pure rfl (show OpP _ _ _ _ (.agg [.agg [nI64 d,nI64 w,ratL 0],.v (.slice none 0 0),.v (.int .i64 0)]) from .build (zs:=[.agg [.v (.int .i64 0),.v (.int .i64 0),ratL 0],.v (.slice none 0 0),.v (.int .i64 0)]) (by simpa [lay,LV.csize,csizes,LV.isAgg,ratE.csize] using SL82) Z82 (by simp only [List.forall_mem_cons];exact⟨⟨_,rfl,rfl,ne0⟩,fun _ h=>by cases h⟩)) ?_
 refine zg7 ?_
 refine cp am1 (hP2) ?_
 refine zg7 ?_
 refine cp am1 (hP1) ?_
 refine zg5 ?_
 refine wl_unroll ?_
 refine zg6 ?_
 refine wl_condX (b:=_) rfl (rfl) ?_
 refine zg6 ?_
 refine st_pure rfl (.idxL rfl Tryz.underlying83 T29 rfl (by decide) rfl rfl) ?_
 refine st_pure rfl (.ldbx rfl hsp rfl rfl) ?_
 refine zg12 ?_
 refine wl_unroll ?_
 refine zg6 ?_
 refine wl_condX (b:=_) rfl (rfl) ?_
 refine zg6 ?_
 refine st_pure rfl (.idxL rfl Tryz.underlying83 T29 rfl (by decide) rfl rfl) ?_
 refine st_pure rfl (.ldbx rfl htp rfl rfl) ?_
 refine zg7 ?_
 refine cp am1 (hDo1) ?_
 refine zg12 ?_
 refine cp am1 (hDo2) ?_
 refine zg13 ?_
 refine zSm ?_
 refine st_alloc rfl rfl (.lit2 (a:=(ua,ub)) (b:=(va,vb)) (z:=(0,0)) spE Tryz.underlying46 Z50s T50 rfl rfl (by decide) (by decide)) ?_
 refine zg2 ?_
 refine zSm ?_
 refine st_alloc rfl rfl (.lit2 (a:=(xa,xb)) (b:=(ya,yb)) (z:=(0,0)) spE Tryz.underlying46 Z50s T50 rfl rfl (by decide) (by decide)) ?_
 refine zSm ?_
 refine st_opc [11,13,52,55] rfl rfl (.mk (caps:=([.boxp (.agg [nI64 U,nI64 V,.list 3 ((kn2 U ua ub).map ratL),.list 3 ((kn2 V va vb).map ratL),.list 1 (rows.map prL)]),.boxp (.agg [nI64 W,nI64 Y,.list 3 ((kn2 W xa xb).map ratL),.list 3 ((kn2 Y ya yb).map ratL),.list 1 (rowt.map prL)])]:List LV)) (.cons (.eptr rfl rfl rfl cs (at_all cs rfl) hsp rfl) (.cons (.eptr rfl rfl rfl cs (at_all cs rfl) htp rfl) .nil)) hcs) rfl ?_
 refine zSm ?_
 refine st_callMt 23 (blk:=⟨7,[.agg [prcL d w,.v (.slice none 0 0),nI64 0]],true⟩) (blk':=⟨7,[.agg [prcL d w,.list 4 [celL [(ua,ub),(va,vb)] [(xa,xb),(ya,yb)] 4 K],nI64 1]],true⟩) rfl rfl rfl (by simp [pures,LV.pure,prcL,ratE.pure]) (.cons (.ptr (sz:=7) (i:=0) (o:=0)) (.cons (.imm (.ref (blk:=⟨6,[spL (ua,ub),spL (va,vb)],false⟩) rfl rfl hpA (by simp) rfl)) (.cons (.imm (.ref (blk:=⟨6,[spL (xa,xb),spL (ya,yb)],false⟩) rfl rfl hpB (by simp) rfl)) (.cons (.imm (.pure (show LV.pure (.clo 36 ([.boxp (.agg [nI64 U,nI64 V,.list 3 ((kn2 U ua ub).map ratL),.list 3 ((kn2 V va vb).map ratL),.list 1 (rows.map prL)]),.boxp (.agg [nI64 W,nI64 Y,.list 3 ((kn2 W xa xb).map ratL),.list 3 ((kn2 Y ya yb).map ratL),.list 1 (rowt.map prL)])]:List LV))=true by simpa [LV.pure] using hcp))) .nil)))) .ptr (c_PairP d w hd hw hw2 [(ua,ub),(va,vb)] [(xa,xb),(ya,yb)] (Nat.succ_pos _) (Nat.succ_pos _) (by simp) (by simp) hbA hbB 36 ([.boxp (.agg [nI64 U,nI64 V,.list 3 ((kn2 U ua ub).map ratL),.list 3 ((kn2 V va vb).map ratL),.list 1 (rows.map prL)]),.boxp (.agg [nI64 W,nI64 Y,.list 3 ((kn2 W xa xb).map ratL),.list 3 ((kn2 Y ya yb).map ratL),.list 1 (rowt.map prL)])]:List LV) hcp hcs K hLk) rfl (by simp [pures,LV.pure,prcL,ratE.pure,celL,pures_map spE,spE.pure]) (fun _=>rfl) ?_
 refine zg8 ?_
 refine wl_unroll ?_
 refine zg6 ?_
 refine wl_condY (b:=_) rfl (rfl) ?_
 refine zg11 ?_
 refine wl_unroll ?_
 refine zg6 ?_
 refine wl_condY (b:=_) rfl (rfl) ?_
 refine zg16 ?_
 exact ret2 rfl (.pure hpcn) rfl (.pure rfl)
namespace H_c_MeetD
theorem zSm {p q:Prop} (k:q) (e:p=q:=by simp only [e1,e2,e3,e4,p1,p2,p3,q1,q2,q3,l1,t0,t1,r1,r2,r3,r4,Nat.zero_add,Nat.reduceMul,Nat.reduceAdd,b1,b2,b3,b4,b5,b6,i1,i2,i3,i4,i5,i6,Nat.reduceBEq,prcL,hc5,hc7,fz0,frz_c,List.getD_cons_zero,List.getD_cons_succ,List.length_map,take_map_len,map_snoc,len_snoc,List.length_cons,List.length_nil,List.nil_append,List.map_nil,List.take_nil,List.append_nil,kills_map spE,prL_kill,kills_map prE,dfr,dfq,take_map_len,map_snoc,len_snoc,List.length_cons,List.length_nil,List.nil_append,List.map_nil,List.take_nil,List.append_nil,List.set_cons_zero,List.set_cons_succ,Nat.reduceEqDiff,reduceIte,if_true,if_false,ptL_kill,poL_kill,kills_map ptE,kills_map poE,kills_map ratE,ratL_kill,spL_kill,LV.kill,kills];exact rfl):p:=e.mpr k
end H_c_MeetD
open H_c_MeetD in
theorem c_MeetD (U V W Y:Nat) (ua ub va vb xa xb ya yb:Rat) (rows rowt:List (List PoR)) (d w:Nat) (hd:d≤24) (hw:1≤w) (hw2:w≤4096) (hu:ua<ub) (hv:va<vb) (hx:xa<xb) (hy:ya<yb) (z1:rl ua≤64) (z2:rl ub≤64) (z3:rl va≤64) (z4:rl vb≤64) (z5:rl xa≤64) (z6:rl xb≤64) (z7:rl ya≤64) (z8:rl yb≤64) (hP1:CallP Tryz.prog 33 [.agg [nI64 U,nI64 V,.list 3 ((kn2 U ua ub).map ratL),.list 3 ((kn2 V va vb).map ratL),.list 1 (rows.map prL)]] (.list 5 [.agg [nI64 U,nI64 V,.list 3 ((kn2 U ua ub).map ratL),.list 3 ((kn2 V va vb).map ratL),.list 1 (rows.map prL)]])) (hP2:CallP Tryz.prog 33 [.agg [nI64 W,nI64 Y,.list 3 ((kn2 W xa xb).map ratL),.list 3 ((kn2 Y ya yb).map ratL),.list 1 (rowt.map prL)]] (.list 5 [.agg [nI64 W,nI64 Y,.list 3 ((kn2 W xa xb).map ratL),.list 3 ((kn2 Y ya yb).map ratL),.list 1 (rowt.map prL)]])) (hDo1:CallP Tryz.prog 34 [.agg [nI64 U,nI64 V,.list 3 ((kn2 U ua ub).map ratL),.list 3 ((kn2 V va vb).map ratL),.list 1 (rows.map prL)]] (.tup [spL (ua,ub),spL (va,vb)])) (hDo2:CallP Tryz.prog 34 [.agg [nI64 W,nI64 Y,.list 3 ((kn2 W xa xb).map ratL),.list 3 ((kn2 Y ya yb).map ratL),.list 1 (rowt.map prL)]] (.tup [spL (xa,xb),spL (ya,yb)])) (hLk:CallP Tryz.prog 36 ([.list 6 ([(ua,ub),(va,vb)].map spL),.list 6 ([(xa,xb),(ya,yb)].map spL)]++([.boxp (.agg [nI64 U,nI64 V,.list 3 ((kn2 U ua ub).map ratL),.list 3 ((kn2 V va vb).map ratL),.list 1 (rows.map prL)]),.boxp (.agg [nI64 W,nI64 Y,.list 3 ((kn2 W xa xb).map ratL),.list 3 ((kn2 Y ya yb).map ratL),.list 1 (rowt.map prL)])]:List LV)) (.agg [.v (.bool true),iL 0,iL 0])):CallP Tryz.prog 11 [.agg [nI64 U,nI64 V,.list 3 ((kn2 U ua ub).map ratL),.list 3 ((kn2 V va vb).map ratL),.list 1 (rows.map prL)],.agg [nI64 W,nI64 Y,.list 3 ((kn2 W xa xb).map ratL),.list 3 ((kn2 Y ya yb).map ratL),.list 1 (rowt.map prL)],prcL d w] (.tup [.v (.slice none 0 0),iL 0]):=by
 have hsp:LV.pure (.agg [nI64 U,nI64 V,.list 3 ((kn2 U ua ub).map ratL),.list 3 ((kn2 V va vb).map ratL),.list 1 (rows.map prL)])=true:=by simp [LV.pure,pures,pures_map ratE,pures_map prE]
 have htp:LV.pure (.agg [nI64 W,nI64 Y,.list 3 ((kn2 W xa xb).map ratL),.list 3 ((kn2 Y ya yb).map ratL),.list 1 (rowt.map prL)])=true:=by simp [LV.pure,pures,pures_map ratE,pures_map prE]
 have hc5:(LV.agg [nI64 d,nI64 w,ratL 0]).csize=5:=by simp [LV.csize,csizes,ratE.csize]
 have hc7:(LV.agg [.agg [nI64 d,nI64 w,ratL 0],.v (.slice none 0 0),.v (.int .i64 0)]).csize=7:=by simp [LV.csize,csizes,ratE.csize]
 have hcp:pures ([.boxp (.agg [nI64 U,nI64 V,.list 3 ((kn2 U ua ub).map ratL),.list 3 ((kn2 V va vb).map ratL),.list 1 (rows.map prL)]),.boxp (.agg [nI64 W,nI64 Y,.list 3 ((kn2 W xa xb).map ratL),.list 3 ((kn2 Y ya yb).map ratL),.list 1 (rowt.map prL)])]:List LV)=true:=by simp [pures,LV.pure,pures_map ratE,pures_map prE]
 have hcs:∀ x∈([.boxp (.agg [nI64 U,nI64 V,.list 3 ((kn2 U ua ub).map ratL),.list 3 ((kn2 V va vb).map ratL),.list 1 (rows.map prL)]),.boxp (.agg [nI64 W,nI64 Y,.list 3 ((kn2 W xa xb).map ratL),.list 3 ((kn2 Y ya yb).map ratL),.list 1 (rowt.map prL)])]:List LV),x.csize=1∧x.isAgg=false:=fun x hx=>by
  simp only [List.mem_cons,List.not_mem_nil,or_false] at hx
  rcases hx with e | e<;>rw [e]<;>exact⟨rfl,rfl⟩
 have hpr:=prcL_pure d w
 have hVa:=c_sVal d w hd hw2
 have hpA:pures [spL (ua,ub),spL (va,vb)]=true:=by simp [pures,spE.pure]
 have hpB:pures [spL (xa,xb),spL (ya,yb)]=true:=by simp [pures,spE.pure]
 have hbA:∀ s∈[(ua,ub),(va,vb)],bdS 1000000 s∧s.1≤s.2:=fun s hs=>by
  simp only [List.mem_cons,List.not_mem_nil,or_false] at hs
  rcases hs with rfl | rfl
  ·exact⟨⟨by show rl ua≤_;omega,by show rl ub≤_;omega⟩,by show ua≤ub;grind⟩
  ·exact⟨⟨by show rl va≤_;omega,by show rl vb≤_;omega⟩,by show va≤vb;grind⟩
 have hbB:∀ s∈[(xa,xb),(ya,yb)],bdS 1000000 s∧s.1≤s.2:=fun s hs=>by
  simp only [List.mem_cons,List.not_mem_nil,or_false] at hs
  rcases hs with rfl | rfl
  ·exact⟨⟨by show rl xa≤_;omega,by show rl xb≤_;omega⟩,by show xa≤xb;grind⟩
  ·exact⟨⟨by show rl ya≤_;omega,by show rl yb≤_;omega⟩,by show ya≤yb;grind⟩
 refine fnP Tryz.func11 (ht:=(tame2 rfl rfl)) ?_
 refine zg13 ?_
 refine st_callP rfl (.cons (.pure hpr) .nil) (hVa) ?_
 refine zg3 ?_
 refine wl_condY (b:=_) rfl (rfl) ?_
 refine zg5 ?_
 refine st_pure rfl (show OpP _ _ _ _ (.agg [.agg [nI64 d,nI64 w,ratL 0],.v (.slice none 0 0),.v (.int .i64 0)]) from .build (zs:=[.agg [.v (.int .i64 0),.v (.int .i64 0),ratL 0],.v (.slice none 0 0),.v (.int .i64 0)]) (by simpa [lay,LV.csize,csizes,LV.isAgg,ratE.csize] using SL82) Z82 (by simp only [List.forall_mem_cons];exact⟨⟨_,rfl,rfl,ne0⟩,fun _ h=>by cases h⟩)) ?_
 refine zg7 ?_
 refine cp am1 (hP2) ?_
 refine zg7 ?_
 refine cp am1 (hP1) ?_
 refine zg5 ?_
 refine wl_unroll ?_
 refine zg6 ?_
 refine wl_condX (b:=_) rfl (rfl) ?_
 refine zg6 ?_
 refine st_pure rfl (.idxL rfl Tryz.underlying83 T29 rfl (by decide) rfl rfl) ?_
 refine st_pure rfl (.ldbx rfl hsp rfl rfl) ?_
 refine zg12 ?_
 refine wl_unroll ?_
 refine zg6 ?_
 refine wl_condX (b:=_) rfl (rfl) ?_
 refine zg6 ?_
 refine st_pure rfl (.idxL rfl Tryz.underlying83 T29 rfl (by decide) rfl rfl) ?_
 refine st_pure rfl (.ldbx rfl htp rfl rfl) ?_
 refine zg7 ?_
 refine cp am1 (hDo1) ?_
 refine zg12 ?_
 refine cp am1 (hDo2) ?_
 refine zg13 ?_
 refine zSm ?_
 refine st_alloc rfl rfl (.lit2 (a:=(ua,ub)) (b:=(va,vb)) (z:=(0,0)) spE Tryz.underlying46 Z50s T50 rfl rfl (by decide) (by decide)) ?_
 refine zg2 ?_
 refine zSm ?_
 refine st_alloc rfl rfl (.lit2 (a:=(xa,xb)) (b:=(ya,yb)) (z:=(0,0)) spE Tryz.underlying46 Z50s T50 rfl rfl (by decide) (by decide)) ?_
 refine zSm ?_
 refine st_opc [11,13,52,55] rfl rfl (.mk (caps:=([.boxp (.agg [nI64 U,nI64 V,.list 3 ((kn2 U ua ub).map ratL),.list 3 ((kn2 V va vb).map ratL),.list 1 (rows.map prL)]),.boxp (.agg [nI64 W,nI64 Y,.list 3 ((kn2 W xa xb).map ratL),.list 3 ((kn2 Y ya yb).map ratL),.list 1 (rowt.map prL)])]:List LV)) (.cons (.eptr rfl rfl rfl cs (at_all cs rfl) hsp rfl) (.cons (.eptr rfl rfl rfl cs (at_all cs rfl) htp rfl) .nil)) hcs) rfl ?_
 refine zSm ?_
 refine st_callMt 23 (blk:=⟨7,[.agg [prcL d w,.v (.slice none 0 0),nI64 0]],true⟩) (blk':=⟨7,[.agg [prcL d w,.v (.slice none 0 0),nI64 1]],true⟩) rfl rfl rfl (by simp [pures,LV.pure,prcL,ratE.pure]) (.cons (.ptr (sz:=7) (i:=0) (o:=0)) (.cons (.imm (.ref (blk:=⟨6,[spL (ua,ub),spL (va,vb)],false⟩) rfl rfl hpA (by simp) rfl)) (.cons (.imm (.ref (blk:=⟨6,[spL (xa,xb),spL (ya,yb)],false⟩) rfl rfl hpB (by simp) rfl)) (.cons (.imm (.pure (show LV.pure (.clo 36 ([.boxp (.agg [nI64 U,nI64 V,.list 3 ((kn2 U ua ub).map ratL),.list 3 ((kn2 V va vb).map ratL),.list 1 (rows.map prL)]),.boxp (.agg [nI64 W,nI64 Y,.list 3 ((kn2 W xa xb).map ratL),.list 3 ((kn2 Y ya yb).map ratL),.list 1 (rowt.map prL)])]:List LV))=true by simpa [LV.pure] using hcp))) .nil)))) .ptr (c_PairD d w hd hw hw2 [(ua,ub),(va,vb)] [(xa,xb),(ya,yb)] (Nat.succ_pos _) (Nat.succ_pos _) (by simp) (by simp) hbA hbB 36 ([.boxp (.agg [nI64 U,nI64 V,.list 3 ((kn2 U ua ub).map ratL),.list 3 ((kn2 V va vb).map ratL),.list 1 (rows.map prL)]),.boxp (.agg [nI64 W,nI64 Y,.list 3 ((kn2 W xa xb).map ratL),.list 3 ((kn2 Y ya yb).map ratL),.list 1 (rowt.map prL)])]:List LV) hcp hcs hLk) rfl (by simp [pures,LV.pure,prcL,ratE.pure,celL,pures_map spE,spE.pure]) (fun _=>rfl) ?_
 refine zg8 ?_
 refine wl_unroll ?_
 refine zg6 ?_
 refine wl_condY (b:=_) rfl (rfl) ?_
 refine zg11 ?_
 refine wl_unroll ?_
 refine zg6 ?_
 refine wl_condY (b:=_) rfl (rfl) ?_
 refine zg16 ?_
 exact ret2 rfl (.pure rfl) rfl (.pure rfl)
def bilR (a b c d:V3):List (List PoR):=[[⟨a,1⟩,⟨c,1⟩],[⟨b,1⟩,⟨d,1⟩]]
def sqF (z:Rat):List (List PoR):=bilR ⟨0,0,z⟩ ⟨1,0,z⟩ ⟨0,1,z⟩ ⟨1,1,z⟩
def waF (x h:Rat):List (List PoR):=bilR ⟨x,0,-h⟩ ⟨x,1,-h⟩ ⟨x,0,h⟩ ⟨x,1,h⟩
def spdU (r:List (List PoR)):Bx3:=psB 1 1 (1-1) 1 (dfU 1 1) r.flatten (1-0)
def spdV (r:List (List PoR)):Bx3:=psB 1 1 1 (1-1) (dfV 1 1) r.flatten (1-0)
def fourB (r s:List (List PoR)):List Bx3:=[spdU r,spdV r,ngB (spdU s),ngB (spdV s)]
def boxF (r:List (List PoR)):Bx3:=bxP (r.flatten.map (·.p))
def okC (x h:Rat):Bool:=meS (boxF (sqF 0)).x (boxF (waF x h)).x && meS (boxF (sqF 0)).y (boxF (waF x h)).y && meS (boxF (sqF 0)).z (boxF (waF x h)).z && hasR (dtK (fourB (sqF 0) (waF x h)) 0) 0 && !hasR (dtK (fourB (sqF 0) (waF x h)) 1) 0
def okD (d:Int) (l:List Int):Bool:=l.all fun m=>okC ((m:Rat)/(d:Rat)) 1 && okC ((m:Rat)/(d:Rat)) 2 && okC ((m:Rat)/(d:Rat)) 3
theorem ok_d1:okD 1 [0,1]=true:=by decide +kernel
theorem ok_d2:okD 2 [0,1,2]=true:=by decide +kernel
theorem ok_d3:okD 3 [0,1,2,3]=true:=by decide +kernel
theorem ok_d4:okD 4 [0,1,2,3,4]=true:=by decide +kernel
theorem ok_d5:okD 5 [0,1,2,3,4,5]=true:=by decide +kernel
theorem ok_d6:okD 6 [0,1,2,3,4,5,6]=true:=by decide +kernel
theorem ok_d7:okD 7 [0,1,2,3,4,5,6,7]=true:=by decide +kernel
theorem ok_d8:okD 8 [0,1,2,3,4,5,6,7,8]=true:=by decide +kernel
theorem ok_d9:okD 9 [0,1,2,3,4,5,6,7,8,9]=true:=by decide +kernel
theorem ok_d10:okD 10 [0,1,2,3,4,5,6,7,8,9,10]=true:=by decide +kernel
theorem ok_d11:okD 11 [0,1,2,3,4,5,6,7,8,9,10,11]=true:=by decide +kernel
theorem ok_d12:okD 12 [0,1,2,3,4,5,6,7,8,9,10,11,12]=true:=by decide +kernel
theorem okD_at {d:Int} {l:List Int} (h:okD d l=true) {m:Int} (hm:m∈l) {k:Int} (h1:1≤k) (h3:k≤3):okC ((m:Rat)/(d:Rat)) (k:Rat)=true:=by
 have:=List.all_eq_true.1 h m hm
 simp only [Bool.and_eq_true] at this
 have e:k=1∨k=2∨k=3:=by omega
 rcases e with rfl | rfl | rfl
 ·exact this.1.1
 ·exact this.1.2
 ·exact this.2
theorem ok_pt (i:Int) {k:Int} (h1:1≤k) (h3:k≤3):okC (ptV i) (k:Rat)=true:=by
 obtain⟨a1,a2⟩:=ptD_bd i
 have n1:=Int.emod_nonneg i (show ptD i+1≠0 by omega)
 have n2:=Int.emod_lt_of_pos i (show 0<ptD i+1 by omega)
 unfold ptV
 generalize i % (ptD i+1)=m at n1 n2
 generalize ptD i=d at a1 a2 n2
 have e:d=1∨d=2∨d=3∨d=4∨d=5∨d=6∨d=7∨d=8∨d=9∨d=10∨d=11∨d=12:=by omega
 rcases e with rfl | rfl | rfl | rfl | rfl | rfl | rfl | rfl | rfl | rfl | rfl | rfl
 ·exact okD_at ok_d1 (by simp only [List.mem_cons,List.not_mem_nil,or_false];omega) h1 h3
 ·exact okD_at ok_d2 (by simp only [List.mem_cons,List.not_mem_nil,or_false];omega) h1 h3
 ·exact okD_at ok_d3 (by simp only [List.mem_cons,List.not_mem_nil,or_false];omega) h1 h3
 ·exact okD_at ok_d4 (by simp only [List.mem_cons,List.not_mem_nil,or_false];omega) h1 h3
 ·exact okD_at ok_d5 (by simp only [List.mem_cons,List.not_mem_nil,or_false];omega) h1 h3
 ·exact okD_at ok_d6 (by simp only [List.mem_cons,List.not_mem_nil,or_false];omega) h1 h3
 ·exact okD_at ok_d7 (by simp only [List.mem_cons,List.not_mem_nil,or_false];omega) h1 h3
 ·exact okD_at ok_d8 (by simp only [List.mem_cons,List.not_mem_nil,or_false];omega) h1 h3
 ·exact okD_at ok_d9 (by simp only [List.mem_cons,List.not_mem_nil,or_false];omega) h1 h3
 ·exact okD_at ok_d10 (by simp only [List.mem_cons,List.not_mem_nil,or_false];omega) h1 h3
 ·exact okD_at ok_d11 (by simp only [List.mem_cons,List.not_mem_nil,or_false];omega) h1 h3
 ·exact okD_at ok_d12 (by simp only [List.mem_cons,List.not_mem_nil,or_false];omega) h1 h3
theorem ok_un {x h:Rat} (e:okC x h=true):meS (boxF (sqF 0)).x (boxF (waF x h)).x=true∧meS (boxF (sqF 0)).y (boxF (waF x h)).y=true∧meS (boxF (sqF 0)).z (boxF (waF x h)).z=true∧hasR (dtK (fourB (sqF 0) (waF x h)) 0) 0=true∧hasR (dtK (fourB (sqF 0) (waF x h)) 1) 0=false:=by
 unfold okC at e
 simp only [Bool.and_eq_true,Bool.not_eq_true'] at e
 exact⟨e.1.1.1.1,e.1.1.1.2,e.1.1.2,e.1.2,e.2⟩
theorem ap_un:meS (boxF (sqF 0)).x (boxF (sqF 1)).x=true∧meS (boxF (sqF 0)).y (boxF (sqF 1)).y=true∧meS (boxF (sqF 0)).z (boxF (sqF 1)).z=false:=by decide +kernel
theorem bil_pf {R:Nat} {a b c d:V3} (h1:1≤R) (hR:R≤1000000) (ha:bd3 R a) (hb:bd3 R b) (hc:bd3 R c) (hd:bd3 R d):pf R 1 1 (bilR a b c d) where
 r1:=h1
 rB:=hR
 u1:=by decide
 u3:=by decide
 v1:=by decide
 v3:=by decide
 n:=rfl
 m:=fun r hr=>by
  unfold bilR at hr
  simp only [List.mem_cons,List.not_mem_nil,or_false] at hr
  rcases hr with rfl | rfl<;>rfl
 ok:=fun r hr q hq=>by
  have w1:rl 1≤R:=h1
  have w0:(0:Rat)<1:=by decide +kernel
  unfold bilR at hr
  simp only [List.mem_cons,List.not_mem_nil,or_false] at hr
  rcases hr with rfl | rfl<;>simp only [List.mem_cons,List.not_mem_nil,or_false] at hq<;>rcases hq with rfl | rfl
  ·exact⟨ha,w1,w0⟩
  ·exact⟨hc,w1,w0⟩
  ·exact⟨hb,w1,w0⟩
  ·exact⟨hd,w1,w0⟩
theorem sq_pf {z:Rat} (h:rl z≤1):pf 1 1 1 (sqF z):=by
 have h0:rl 0≤1:=Nat.le_refl _
 have h1:rl 1≤1:=Nat.le_refl _
 exact bil_pf (by decide) (by decide) ⟨h0,h0,h⟩ ⟨h1,h0,h⟩ ⟨h0,h1,h⟩ ⟨h1,h1,h⟩
theorem wa_pf {x h:Rat} (hx:rl x≤1) (hh:rl h≤1):pf 1 1 1 (waF x h):=by
 have h0:rl 0≤1:=Nat.le_refl _
 have h1:rl 1≤1:=Nat.le_refl _
 have hn:rl (-h)≤1:=by rw [rl_neg];exact hh
 exact bil_pf (by decide) (by decide) ⟨hx,h0,hn⟩ ⟨hx,h1,hn⟩ ⟨hx,h0,hh⟩ ⟨hx,h1,hh⟩
theorem z01:(0:Rat)<1:=by decide +kernel
theorem r01:rl 0≤64:=by decide +kernel
theorem r11:rl 1≤64:=by decide +kernel
theorem dom1 (r:List (List PoR)):CallP Tryz.prog 34 [.agg [nI64 1,nI64 1,.list 3 ((kn2 1 0 1).map ratL),.list 3 ((kn2 1 0 1).map ratL),.list 1 (r.map prL)]] (.tup [spL (0,1),spL (0,1)]):=c_PDom 1 1 0 1 0 1 r (by decide +kernel) (by decide +kernel) (by decide +kernel) (by decide +kernel) z01 z01 (by decide) (by decide)
section
variable {r:List (List PoR)} (h:pf 1 1 1 r)
include h
theorem cut1:CallP Tryz.prog 37 [.agg [nI64 1,nI64 1,.list 3 ((kn2 1 0 1).map ratL),.list 3 ((kn2 1 0 1).map ratL),.list 1 (r.map prL)],spL (0,1),spL (0,1)] (.tup [.agg [nI64 1,nI64 1,.list 3 ((kn2 1 0 1).map ratL),.list 3 ((kn2 1 0 1).map ratL),.list 1 (r.map prL)],iL 0]):=c_sCut 1 1 1 0 1 0 1 r h (by decide) z01 z01 r01 r11 r01 r11
theorem pat1:CallP Tryz.prog 33 [.agg [nI64 1,nI64 1,.list 3 ((kn2 1 0 1).map ratL),.list 3 ((kn2 1 0 1).map ratL),.list 1 (r.map prL)]] (.list 5 [.agg [nI64 1,nI64 1,.list 3 ((kn2 1 0 1).map ratL),.list 3 ((kn2 1 0 1).map ratL),.list 1 (r.map prL)]]):=c_sPat 1 1 1 0 1 0 1 r h (by decide) z01 z01 r01 r11 r01 r11
theorem box1:CallP Tryz.prog 39 [.agg [nI64 1,nI64 1,.list 3 ((kn2 1 0 1).map ratL),.list 3 ((kn2 1 0 1).map ratL),.list 1 (r.map prL)]] (bxL (boxF r)):=c_PBox 1 1 1 (kn2 1 0 1) (kn2 1 0 1) r h (by decide)
theorem spd1:CallP Tryz.prog 90 [.agg [nI64 1,nI64 1,.list 3 ((kn2 1 0 1).map ratL),.list 3 ((kn2 1 0 1).map ratL),.list 1 (r.map prL)]] (.tup [bxL (spdU r),bxL (spdV r)]):=c_PSpd 1 1 1 0 1 0 1 r h (by decide +kernel) (by decide +kernel) (by decide +kernel) (by decide +kernel) z01 z01 (by decide)
theorem spd_bd:bdB 10000 (spdU r)∧bdB 10000 (spdV r):=by
 have w:rl ((1:Rat)-0)≤1000:=by decide +kernel
 have a:=psB_bd h (dfS_U (U:=1) (V:=1) (by decide) (by decide)) w
 have b:=psB_bd h (dfS_V (U:=1) (V:=1) (by decide) (by decide)) w
 exact⟨⟨a.1.le (by decide),a.2.1.le (by decide),a.2.2.le (by decide)⟩,⟨b.1.le (by decide),b.2.1.le (by decide),b.2.2.le (by decide)⟩⟩
end
theorem box_bd {r:List (List PoR)} (h:pf 1 1 1 r):bdB 1000 (boxF r):=by
 have hl:(r.flatten.map (·.p)).length=4:=by rw [List.length_map,h.len]
 have hb:∀ i,i<(r.flatten.map (·.p)).length→bd3 1000 ((r.flatten.map (·.p)).getD i default):=fun i hi=>(h.fp hi).le (by decide)
 exact⟨bxN_bd hb 0 _ (by omega),bxN_bd hb 1 _ (by omega),bxN_bd hb 2 _ (by omega)⟩
theorem srf_pure (r:List (List PoR)):LV.pure (.agg [nI64 1,nI64 1,.list 3 ((kn2 1 0 1).map ratL),.list 3 ((kn2 1 0 1).map ratL),.list 1 (r.map prL)])=true:=by simp [LV.pure,pures,pures_map ratE,pures_map prE]
theorem meetW {x h:Rat} (hx:rl x≤1) (hh:rl h≤1) (ho:okC x h=true) (d w:Nat) (hd:d≤24) (hw:1≤w) (hw2:w≤4096):CallP Tryz.prog 11 [.agg [nI64 1,nI64 1,.list 3 ((kn2 1 0 1).map ratL),.list 3 ((kn2 1 0 1).map ratL),.list 1 ((sqF 0).map prL)],.agg [nI64 1,nI64 1,.list 3 ((kn2 1 0 1).map ratL),.list 3 ((kn2 1 0 1).map ratL),.list 1 ((waF x h).map prL)],prcL d w] (.tup [.list 4 [celL [((0:Rat),(1:Rat)),(0,1)] [((0:Rat),(1:Rat)),(0,1)] 4 1],iL 0]):=by
 have hs:=sq_pf (z:=0) (by decide +kernel)
 have ht:=wa_pf hx hh
 obtain⟨m0,m1,m2,k0,k1'⟩:=ok_un ho
 have hM:=c_Meets _ _ 1000 (by decide) (box_bd hs) (box_bd ht) m0 m1 m2
 have hT:=c_test (.agg [nI64 1,nI64 1,.list 3 ((kn2 1 0 1).map ratL),.list 3 ((kn2 1 0 1).map ratL),.list 1 ((sqF 0).map prL)]) (.agg [nI64 1,nI64 1,.list 3 ((kn2 1 0 1).map ratL),.list 3 ((kn2 1 0 1).map ratL),.list 1 ((waF x h).map prL)]) rfl rfl (srf_pure _) rfl rfl (srf_pure _) _ _ _ _ 10000 (by decide) (spd_bd hs).1 (spd_bd hs).2 (spd_bd ht).1 (spd_bd ht).2 (spd1 hs) (spd1 ht) 1 (by decide) (fun k hk=>by
  obtain rfl:k=0:=by omega
  exact k0) k1'
 exact c_MeetP 1 1 1 1 0 1 0 1 0 1 0 1 (sqF 0) (waF x h) d w hd hw hw2 z01 z01 z01 z01 r01 r11 r01 r11 r01 r11 r01 r11 (pat1 hs) (pat1 ht) (dom1 _) (dom1 _) 1
  (c_Me1P 1 1 1 1 0 1 0 1 0 1 0 1 (sqF 0) (waF x h) _ _ (cut1 hs) (cut1 ht) (box1 hs) (box1 ht) hM 1 hT)
theorem meetA (d w:Nat) (hd:d≤24) (hw:1≤w) (hw2:w≤4096):CallP Tryz.prog 11 [.agg [nI64 1,nI64 1,.list 3 ((kn2 1 0 1).map ratL),.list 3 ((kn2 1 0 1).map ratL),.list 1 ((sqF 0).map prL)],.agg [nI64 1,nI64 1,.list 3 ((kn2 1 0 1).map ratL),.list 3 ((kn2 1 0 1).map ratL),.list 1 ((sqF 1).map prL)],prcL d w] (.tup [.v (.slice none 0 0),iL 0]):=by
 have hs:=sq_pf (z:=0) (by decide +kernel)
 have ht:=sq_pf (z:=1) (by decide +kernel)
 obtain⟨m0,m1,m2⟩:=ap_un
 have hM:=c_MeetsN _ _ 1000 (by decide) (box_bd hs) (box_bd ht) m0 m1 m2
 exact c_MeetD 1 1 1 1 0 1 0 1 0 1 0 1 (sqF 0) (sqF 1) d w hd hw hw2 z01 z01 z01 z01 r01 r11 r01 r11 r01 r11 r01 r11 (pat1 hs) (pat1 ht) (dom1 _) (dom1 _)
  (c_Me1D 1 1 1 1 0 1 0 1 0 1 0 1 (sqF 0) (sqF 1) _ _ (cut1 hs) (cut1 ht) (box1 hs) (box1 ht) hM)
namespace H_c_ints
theorem zSm {p q:Prop} (k:q) (e:p=q:=by simp only [e1,e2,e3,e4,p1,p2,p3,q1,q2,q3,l1,t0,t1,r1,r2,r3,r4,Nat.zero_add,Nat.reduceMul,Nat.reduceAdd,b1,b2,b3,b4,b5,b6,i1,i2,i3,i4,i5,i6,Nat.reduceBEq,etk,ers,List.length_map,take_map_len,map_snoc,len_snoc,List.length_cons,List.length_nil,List.nil_append,List.map_nil,List.take_nil,List.append_nil,kills_map ratE,List.set_cons_zero,List.set_cons_succ,Nat.reduceEqDiff,reduceIte,if_true,if_false,ptL_kill,poL_kill,kills_map ptE,kills_map poE,kills_map ratE,ratL_kill,spL_kill,LV.kill,kills];exact rfl):p:=e.mpr k
end H_c_ints
open H_c_ints in
theorem c_ints (l:List Int) (hl:l.length≤1000) (hb:∀ x∈l,-1000≤x∧x≤1000):CallP Tryz.prog 61 [.list 1 (l.map i64L)] (.list 3 ((l.map fun x:Int=>(x:Rat)).map ratL)):=by
 refine fnP Tryz.func61 ?_
 have etk:True:=trivial
 have ers:True:=trivial
 refine zg17 ?_
 refine wl_weak (Weak.own (t:=3) 18 3 rfl rfl) ?_
 refine lp1 (fun(k:Nat) L=>((((St.mk L.slot (hp [(18,⟨3,((l.map fun x:Int=>(x:Rat)).take k).map ratL,true⟩)])).put (some 0) (.list 1 (l.map i64L))).put (some 3) (.ref 18 3 0 k)).put (some 4) (nI64 k))) (fun k=>k≤l.length) (fun k=>l.length-k) 0 (Nat.zero_le _) ?_
 rintro k L1 hk
 refine zg9 ?_
 refine wl_if rfl (fun h8r h8=>?_) (fun h8r h8=>?_)
 ·have hk2:k<l.length:=by omega
  have hbk:=hb (l.getD k 0) (by rw [List.getD_eq_getElem?_getD,List.getElem?_eq_getElem hk2];exact List.getElem_mem hk2)
  have ers:=mapT (fun x:Int=>(x:Rat)) l 0 hk2
  have etk:(((l.map fun x:Int=>(x:Rat)).take k).map ratL).take k=((l.map fun x:Int=>(x:Rat)).take k).map ratL:=List.take_of_length_le (by rw [List.length_map,List.length_take];omega)
  have hlr:(l.map fun x:Int=>(x:Rat)).length=l.length:=List.length_map ..
  refine zg10 ?_
  refine cp am1 (c_FInt (l.getD k 0) (by omega) (by omega)) ?_
  refine zg1 ?_
  refine st_store rfl (.appX (d:=18) (news:=[ratL ((l.getD k 0):Rat)]) rfl rfl rfl rfl (by simp;omega) (.inl rfl) (by decide) Tryz.underlying26 Tryz.underlying26 Z32a T32 rfl B32 (.inl ⟨17,0,_,rfl,by decide,rfl,rfl,by simp,rfl,by simp [pures,ratE.pure]⟩) (by simp;omega) (by simp;omega) (by decide)) ?_
  refine zg4 ?_
  refine wl_regW (Weak.kill _ 17) ?_
  refine zg1 ?_
  refine st_pure rfl (.bin rfl rfl (add1N (by omega))) ?_
  refine zg3 ?_
  exact nx1 (k+1) (by omega)
 ·obtain rfl:k=l.length:=by omega
  have hE:(l.map fun x:Int=>(x:Rat)).take l.length=(l.map fun x:Int=>(x:Rat)):=List.take_of_length_le (by rw [List.length_map];exact Nat.le_refl _)
  simp only [hE]
  refine zg12 ?_
  exact ret1f [18] rfl rfl (imm_refm (l:=(l.map fun x:Int=>(x:Rat))) ratE rfl rfl (by rw [List.length_map]))
namespace H_c_14pole
theorem zSm {p q:Prop} (k:q) (e:p=q:=by simp only [e1,e2,e3,e4,p1,p2,p3,q1,q2,q3,l1,t0,t1,r1,r2,r3,r4,Nat.zero_add,Nat.reduceMul,Nat.reduceAdd,b1,b2,b3,b4,b5,b6,i1,i2,i3,i4,i5,i6,Nat.reduceBEq,List.set_cons_zero,List.set_cons_succ,Nat.reduceEqDiff,reduceIte,if_true,if_false,ptL_kill,poL_kill,kills_map ptE,kills_map poE,kills_map ratE,ratL_kill,spL_kill,LV.kill,kills];exact rfl):p:=e.mpr k
end H_c_14pole
open H_c_14pole in
theorem c_14pole (p:V3):CallP Tryz.prog 62 [ptL p,iL 1] (poL ⟨p,1⟩):=by
 have hI1:CallP Tryz.prog 20 [iL 1] (ratL 1):=c_FInt 1 (by decide) (by decide)
 refine fnP Tryz.func62 (ht:=(fun g=>LV.ren_pure g _ (poE.pure _))) ?_
 refine zg7 ?_
 refine wl_regD 4 (by decide +kernel) ?_
 refine zg2 ?_
 refine cp am1 (hI1) ?_
 refine s0bd (bdPo (p:=p) (r:=1) rfl rfl) ?_
 refine zg4 ?_
 exact retC [] rfl rfl rfl cs (at_all cs rfl) T122 (.pure pu)
namespace H_c_Bil
theorem zSm {p q:Prop} (k:q) (e:p=q:=by simp only [e1,e2,e3,e4,p1,p2,p3,q1,q2,q3,l1,t0,t1,r1,r2,r3,r4,Nat.zero_add,Nat.reduceMul,Nat.reduceAdd,b1,b2,b3,b4,b5,b6,i1,i2,i3,i4,i5,i6,Nat.reduceBEq,ptL_kill,fz0,frz_c,prL_kill,kills_map prE,dfr,dfq,take_map_len,map_snoc,len_snoc,List.length_cons,List.length_nil,List.nil_append,List.map_nil,List.take_nil,List.append_nil,List.set_cons_zero,List.set_cons_succ,Nat.reduceEqDiff,reduceIte,if_true,if_false,ptL_kill,poL_kill,kills_map ptE,kills_map poE,kills_map ratE,ratL_kill,spL_kill,LV.kill,kills];exact rfl):p:=e.mpr k
end H_c_Bil
open H_c_Bil in
theorem c_Bil (a b c d:V3):CallP Tryz.prog 22 [ptL a,ptL b,ptL c,ptL d] (.agg [nI64 1,nI64 1,.list 3 ((kn2 1 0 1).map ratL),.list 3 ((kn2 1 0 1).map ratL),.list 1 ((bilR a b c d).map prL)]):=by
 have hpk:=pure_lst ratE 3 (kn2 1 0 1)
 have hI4:CallP Tryz.prog 61 [.list 1 (([0,0,1,1]:List Int).map i64L)] (.list 3 ((kn2 1 0 1).map ratL)):=by
  have:=c_ints [0,0,1,1] (by decide) (by decide)
  rwa [show (([0,0,1,1]:List Int).map fun x:Int=>(x:Rat))=kn2 1 0 1 from by decide +kernel] at this
 refine fnP Tryz.func22 (ht:=(fun g=>LV.ren_pure g _ (by simp [LV.pure,pures,pures_map ratE,pures_map prE]))) ?_
 refine zg11 ?_
 refine st_alloc rfl rfl (.lit4 (a:=0) (b:=0) (c:=1) (f:=1) i64E Tryz.underlying120 (show ZeroOK _ _ (i64L 0) from Z2) T2 rfl rfl rfl rfl (by decide) (by decide)) ?_
 refine st_callPf [10] rfl rfl (.cons (imm_refm (l:=[0,0,1,1]) i64E rfl rfl rfl) .nil) (hI4) ?_
 refine zg4 ?_
 refine wl_regAW ((((Weak.boxp (t:=4) (b:=4) rfl rfl (ptE.csize _) rfl (ptE.pure _)).trans (Weak.boxp (t:=5) (b:=5) rfl rfl (by simp only [ptL_kill];exact ptE.csize _) (by simp only [ptL_kill];rfl) (by simp only [ptL_kill];exact ptE.pure _))).trans (Weak.boxp (t:=6) (b:=6) rfl rfl (by simp only [ptL_kill];exact ptE.csize _) (by simp only [ptL_kill];rfl) (by simp only [ptL_kill];exact ptE.pure _))).trans (Weak.boxp (t:=7) (b:=7) rfl rfl (by simp only [ptL_kill];exact ptE.csize _) (by simp only [ptL_kill];rfl) (by simp only [ptL_kill];exact ptE.pure _))) ?_
 refine zSm ?_
 refine any_hoistW 0 rfl rfl (by decide +kernel) (.move _) (fun b=>LV.kill_pure b _ hpk) fmA ?_
 refine any_hoistW 2 rfl rfl (by decide +kernel) (.move _) (fun b=>LV.kill_pure b _ hpk) fmA ?_
 refine any_hoistW 4 rfl rfl (by decide +kernel) (.ldbx (c:=ptL a) rfl (ptE.pure a) (ptE.csize a) rfl) (fun b=>ptL_kill _ b) fmA ?_
 refine any_hoistW 6 rfl rfl (by decide +kernel) (.ldbx (c:=ptL c) rfl (ptE.pure c) (ptE.csize c) rfl) (fun b=>ptL_kill _ b) fmA ?_
 refine any_hoistW 9 rfl rfl (by decide +kernel) (.ldbx (c:=ptL b) rfl (ptE.pure b) (ptE.csize b) rfl) (fun b=>ptL_kill _ b) fmA ?_
 refine any_hoistW 11 rfl rfl (by decide +kernel) (.ldbx (c:=ptL d) rfl (ptE.pure d) (ptE.csize d) rfl) (fun b=>ptL_kill _ b) fmA ?_
 refine any_1 1 _ (by decide +kernel) rfl ?_
 refine zg1 ?_
 refine st_nil ?_
 refine any_1 3 _ (by decide +kernel) rfl ?_
 refine st_store rfl (.appX (d:=13) (news:=(kn2 1 0 1).map ratL) rfl rfl rfl rfl (by simp) (.inl rfl) (by decide) Tryz.underlying26 Tryz.underlying26 Z32a T32 rfl B32 (.inr (.inl rfl)) (by simp [kn2_len]) (by simp [kn2_len]) (by decide)) ?_
 refine st_nil ?_
 refine any_1 5 _ (by decide +kernel) rfl ?_
 refine zSm ?_
 refine st_callP rfl (.cons (.pure (ptE.pure a)) (.cons (.pure rfl) .nil)) (c_14pole a) ?_
 refine st_nil ?_
 refine any_1 7 _ (by decide +kernel) rfl ?_
 refine st_callP rfl (.cons (.pure (ptE.pure c)) (.cons (.pure rfl) .nil)) (c_14pole c) ?_
 refine st_nil ?_
 refine any_2 8 10 _ _ (by decide +kernel) rfl rfl ?_ ?_
 ·refine st_alloc rfl rfl (.lit2 (a:=⟨a,1⟩) (b:=⟨c,1⟩) (z:=⟨⟨0,0,0⟩,0⟩) poE Tryz.underlying111 (show ZeroOK _ _ (poL ⟨⟨0,0,0⟩,0⟩) from Z122) T122 rfl rfl (by decide) (by decide)) ?_
  refine st_nil ?_
  refine any_1 10 _ (by decide +kernel) rfl ?_
  refine st_callP rfl (.cons (.pure (ptE.pure b)) (.cons (.pure rfl) .nil)) (c_14pole b) ?_
  refine st_nil ?_
  refine any_1 12 _ (by decide +kernel) rfl ?_
  refine st_callP rfl (.cons (.pure (ptE.pure d)) (.cons (.pure rfl) .nil)) (c_14pole d) ?_
  refine st_nil ?_
  refine any_1 13 _ (by decide +kernel) rfl ?_
  refine st_alloc rfl rfl (.lit2 (a:=⟨b,1⟩) (b:=⟨d,1⟩) (z:=⟨⟨0,0,0⟩,0⟩) poE Tryz.underlying111 (show ZeroOK _ _ (poL ⟨⟨0,0,0⟩,0⟩) from Z122) T122 rfl rfl (by decide) (by decide)) ?_
  refine st_nil ?_
  refine any_1 14 _ (by decide +kernel) rfl ?_
  refine st_alloc rfl rfl (.lit (z:=prL []) (sz:=1) Tryz.underlying27 prZ T111 rfl (by decide) (by decide) (by decide) (by intro p hp;simp only [List.mem_cons,List.not_mem_nil,or_false] at hp;rcases hp with rfl | rfl<;>exact⟨by decide,rfl,(fun h=>by cases h),(fun _ h=>by cases h)⟩)) ?_
  refine st_nil ?_
  refine any_1 15 _ (by decide +kernel) rfl ?_
  refine st_pure rfl (.build (zs:=[.v (.int .i64 0),.v (.int .i64 0),.v (.slice none 0 0),.v (.slice none 0 0),.v (.slice none 0 0)]) SL29 Z29 (by simp only [List.forall_mem_cons];exact⟨⟨_,rfl,rfl,ne0⟩,⟨_,rfl,rfl,ne0⟩,⟨_,rfl,rfl,ne0⟩,⟨_,rfl,rfl,ne0⟩,⟨_,rfl,rfl,ne0⟩,fun _ h=>by cases h⟩)) ?_
  refine st_nil ?_
  refine any_1 16 _ (by decide +kernel) rfl ?_
  refine zg1 ?_
  refine st_nil ?_
  refine any_0 (by decide +kernel) ?_
  refine zg2 ?_
  exact retC [13,20,25,26] rfl rfl rfl cs (at_all cs rfl) T29 (.agg (.cons (.pure rfl) (.cons (.pure rfl) (.cons (.pure hpk) (.cons (imm_refm (l:=kn2 1 0 1) ratE rfl rfl rfl) (.cons (.refI (blk:=⟨1,_,false⟩) rfl rfl (Nat.le_of_ble_eq_true rfl) rfl (.cons (imm_refm (l:=[(⟨a,1⟩:PoR),⟨c,1⟩]) poE rfl rfl rfl) (.cons (imm_refm (l:=[(⟨b,1⟩:PoR),⟨d,1⟩]) poE rfl rfl rfl) .nil))) .nil))))))
 ·refine st_callP rfl (.cons (.pure (ptE.pure b)) (.cons (.pure rfl) .nil)) (c_14pole b) ?_
  refine st_nil ?_
  refine any_2 8 12 _ _ (by decide +kernel) rfl rfl ?_ ?_
  ·refine st_alloc rfl rfl (.lit2 (a:=⟨a,1⟩) (b:=⟨c,1⟩) (z:=⟨⟨0,0,0⟩,0⟩) poE Tryz.underlying111 (show ZeroOK _ _ (poL ⟨⟨0,0,0⟩,0⟩) from Z122) T122 rfl rfl (by decide) (by decide)) ?_
   refine st_nil ?_
   refine any_1 12 _ (by decide +kernel) rfl ?_
   refine st_callP rfl (.cons (.pure (ptE.pure d)) (.cons (.pure rfl) .nil)) (c_14pole d) ?_
   refine st_nil ?_
   refine any_1 13 _ (by decide +kernel) rfl ?_
   refine st_alloc rfl rfl (.lit2 (a:=⟨b,1⟩) (b:=⟨d,1⟩) (z:=⟨⟨0,0,0⟩,0⟩) poE Tryz.underlying111 (show ZeroOK _ _ (poL ⟨⟨0,0,0⟩,0⟩) from Z122) T122 rfl rfl (by decide) (by decide)) ?_
   refine st_nil ?_
   refine any_1 14 _ (by decide +kernel) rfl ?_
   refine st_alloc rfl rfl (.lit (z:=prL []) (sz:=1) Tryz.underlying27 prZ T111 rfl (by decide) (by decide) (by decide) (by intro p hp;simp only [List.mem_cons,List.not_mem_nil,or_false] at hp;rcases hp with rfl | rfl<;>exact⟨by decide,rfl,(fun h=>by cases h),(fun _ h=>by cases h)⟩)) ?_
   refine st_nil ?_
   refine any_1 15 _ (by decide +kernel) rfl ?_
   refine st_pure rfl (.build (zs:=[.v (.int .i64 0),.v (.int .i64 0),.v (.slice none 0 0),.v (.slice none 0 0),.v (.slice none 0 0)]) SL29 Z29 (by simp only [List.forall_mem_cons];exact⟨⟨_,rfl,rfl,ne0⟩,⟨_,rfl,rfl,ne0⟩,⟨_,rfl,rfl,ne0⟩,⟨_,rfl,rfl,ne0⟩,⟨_,rfl,rfl,ne0⟩,fun _ h=>by cases h⟩)) ?_
   refine st_nil ?_
   refine any_1 16 _ (by decide +kernel) rfl ?_
   refine zg1 ?_
   refine st_nil ?_
   refine any_0 (by decide +kernel) ?_
   refine zg2 ?_
   exact retC [13,20,25,26] rfl rfl rfl cs (at_all cs rfl) T29 (.agg (.cons (.pure rfl) (.cons (.pure rfl) (.cons (.pure hpk) (.cons (imm_refm (l:=kn2 1 0 1) ratE rfl rfl rfl) (.cons (.refI (blk:=⟨1,_,false⟩) rfl rfl (Nat.le_of_ble_eq_true rfl) rfl (.cons (imm_refm (l:=[(⟨a,1⟩:PoR),⟨c,1⟩]) poE rfl rfl rfl) (.cons (imm_refm (l:=[(⟨b,1⟩:PoR),⟨d,1⟩]) poE rfl rfl rfl) .nil))) .nil))))))
  ·refine st_callP rfl (.cons (.pure (ptE.pure d)) (.cons (.pure rfl) .nil)) (c_14pole d) ?_
   refine st_nil ?_
   refine any_2 8 13 _ _ (by decide +kernel) rfl rfl ?_ ?_
   ·refine st_alloc rfl rfl (.lit2 (a:=⟨a,1⟩) (b:=⟨c,1⟩) (z:=⟨⟨0,0,0⟩,0⟩) poE Tryz.underlying111 (show ZeroOK _ _ (poL ⟨⟨0,0,0⟩,0⟩) from Z122) T122 rfl rfl (by decide) (by decide)) ?_
    refine st_nil ?_
    refine any_1 13 _ (by decide +kernel) rfl ?_
    refine st_alloc rfl rfl (.lit2 (a:=⟨b,1⟩) (b:=⟨d,1⟩) (z:=⟨⟨0,0,0⟩,0⟩) poE Tryz.underlying111 (show ZeroOK _ _ (poL ⟨⟨0,0,0⟩,0⟩) from Z122) T122 rfl rfl (by decide) (by decide)) ?_
    refine st_nil ?_
    refine any_1 14 _ (by decide +kernel) rfl ?_
    refine st_alloc rfl rfl (.lit (z:=prL []) (sz:=1) Tryz.underlying27 prZ T111 rfl (by decide) (by decide) (by decide) (by intro p hp;simp only [List.mem_cons,List.not_mem_nil,or_false] at hp;rcases hp with rfl | rfl<;>exact⟨by decide,rfl,(fun h=>by cases h),(fun _ h=>by cases h)⟩)) ?_
    refine st_nil ?_
    refine any_1 15 _ (by decide +kernel) rfl ?_
    refine st_pure rfl (.build (zs:=[.v (.int .i64 0),.v (.int .i64 0),.v (.slice none 0 0),.v (.slice none 0 0),.v (.slice none 0 0)]) SL29 Z29 (by simp only [List.forall_mem_cons];exact⟨⟨_,rfl,rfl,ne0⟩,⟨_,rfl,rfl,ne0⟩,⟨_,rfl,rfl,ne0⟩,⟨_,rfl,rfl,ne0⟩,⟨_,rfl,rfl,ne0⟩,fun _ h=>by cases h⟩)) ?_
    refine st_nil ?_
    refine any_1 16 _ (by decide +kernel) rfl ?_
    refine zg1 ?_
    refine st_nil ?_
    refine any_0 (by decide +kernel) ?_
    refine zg2 ?_
    exact retC [13,20,25,26] rfl rfl rfl cs (at_all cs rfl) T29 (.agg (.cons (.pure rfl) (.cons (.pure rfl) (.cons (.pure hpk) (.cons (imm_refm (l:=kn2 1 0 1) ratE rfl rfl rfl) (.cons (.refI (blk:=⟨1,_,false⟩) rfl rfl (Nat.le_of_ble_eq_true rfl) rfl (.cons (imm_refm (l:=[(⟨a,1⟩:PoR),⟨c,1⟩]) poE rfl rfl rfl) (.cons (imm_refm (l:=[(⟨b,1⟩:PoR),⟨d,1⟩]) poE rfl rfl rfl) .nil))) .nil))))))
   ·refine st_alloc rfl rfl (.lit2 (a:=⟨b,1⟩) (b:=⟨d,1⟩) (z:=⟨⟨0,0,0⟩,0⟩) poE Tryz.underlying111 (show ZeroOK _ _ (poL ⟨⟨0,0,0⟩,0⟩) from Z122) T122 rfl rfl (by decide) (by decide)) ?_
    refine st_nil ?_
    refine any_1 8 _ (by decide +kernel) rfl ?_
    refine st_alloc rfl rfl (.lit2 (a:=⟨a,1⟩) (b:=⟨c,1⟩) (z:=⟨⟨0,0,0⟩,0⟩) poE Tryz.underlying111 (show ZeroOK _ _ (poL ⟨⟨0,0,0⟩,0⟩) from Z122) T122 rfl rfl (by decide) (by decide)) ?_
    refine st_nil ?_
    refine any_1 14 _ (by decide +kernel) rfl ?_
    refine st_alloc rfl rfl (.lit (z:=prL []) (sz:=1) Tryz.underlying27 prZ T111 rfl (by decide) (by decide) (by decide) (by intro p hp;simp only [List.mem_cons,List.not_mem_nil,or_false] at hp;rcases hp with rfl | rfl<;>exact⟨by decide,rfl,(fun h=>by cases h),(fun _ h=>by cases h)⟩)) ?_
    refine st_nil ?_
    refine any_1 15 _ (by decide +kernel) rfl ?_
    refine st_pure rfl (.build (zs:=[.v (.int .i64 0),.v (.int .i64 0),.v (.slice none 0 0),.v (.slice none 0 0),.v (.slice none 0 0)]) SL29 Z29 (by simp only [List.forall_mem_cons];exact⟨⟨_,rfl,rfl,ne0⟩,⟨_,rfl,rfl,ne0⟩,⟨_,rfl,rfl,ne0⟩,⟨_,rfl,rfl,ne0⟩,⟨_,rfl,rfl,ne0⟩,fun _ h=>by cases h⟩)) ?_
    refine st_nil ?_
    refine any_1 16 _ (by decide +kernel) rfl ?_
    refine zg1 ?_
    refine st_nil ?_
    refine any_0 (by decide +kernel) ?_
    refine zg2 ?_
    exact retC [13,20,25,26] rfl rfl rfl cs (at_all cs rfl) T29 (.agg (.cons (.pure rfl) (.cons (.pure rfl) (.cons (.pure hpk) (.cons (imm_refm (l:=kn2 1 0 1) ratE rfl rfl rfl) (.cons (.refI (blk:=⟨1,_,false⟩) rfl rfl (Nat.le_of_ble_eq_true rfl) rfl (.cons (imm_refm (l:=[(⟨a,1⟩:PoR),⟨c,1⟩]) poE rfl rfl rfl) (.cons (imm_refm (l:=[(⟨b,1⟩:PoR),⟨d,1⟩]) poE rfl rfl rfl) .nil))) .nil))))))
namespace H_c_sq0
theorem zSm {p q:Prop} (k:q) (e:p=q:=by simp only [e1,e2,e3,e4,p1,p2,p3,q1,q2,q3,l1,t0,t1,r1,r2,r3,r4,Nat.zero_add,Nat.reduceMul,Nat.reduceAdd,b1,b2,b3,b4,b5,b6,i1,i2,i3,i4,i5,i6,Nat.reduceBEq,prL_kill,kills_map prE,dfr,dfq,take_map_len,map_snoc,len_snoc,List.length_cons,List.length_nil,List.nil_append,List.map_nil,List.take_nil,List.append_nil,List.set_cons_zero,List.set_cons_succ,Nat.reduceEqDiff,reduceIte,if_true,if_false,ptL_kill,poL_kill,kills_map ptE,kills_map poE,kills_map ratE,ratL_kill,spL_kill,LV.kill,kills];exact rfl):p:=e.mpr k
end H_c_sq0
open H_c_sq0 in
theorem c_sq0 :CallP Tryz.prog 23 [iL 0] (.agg [nI64 1,nI64 1,.list 3 ((kn2 1 0 1).map ratL),.list 3 ((kn2 1 0 1).map ratL),.list 1 ((sqF 0).map prL)]):=by
 have hsp:LV.pure (.agg [nI64 1,nI64 1,.list 3 ((kn2 1 0 1).map ratL),.list 3 ((kn2 1 0 1).map ratL),.list 1 ((sqF 0).map prL)])=true:=by simp [LV.pure,pures,pures_map ratE,pures_map prE]
 have hI:CallP Tryz.prog 20 [iL 0] (ratL 0):=c_FInt 0 (by decide) (by decide)
 have hA1:CallP Tryz.prog 63 [ptL (⟨0,0,0⟩:V3),ptL (⟨1,0,0⟩:V3)] (ptL (⟨1,0,0⟩:V3)):=by
  have:=c_FVAdd (⟨0,0,0⟩:V3) (⟨1,0,0⟩:V3) 10 (by decide) ⟨by decide +kernel,by decide +kernel,by decide +kernel⟩ ⟨by decide +kernel,by decide +kernel,by decide +kernel⟩
  rwa [show v3a (⟨0,0,0⟩:V3) (⟨1,0,0⟩:V3)=(⟨1,0,0⟩:V3) from by unfold v3a;simp;try decide +kernel] at this
 have hA2:CallP Tryz.prog 63 [ptL (⟨0,0,0⟩:V3),ptL (⟨0,1,0⟩:V3)] (ptL (⟨0,1,0⟩:V3)):=by
  have:=c_FVAdd (⟨0,0,0⟩:V3) (⟨0,1,0⟩:V3) 10 (by decide) ⟨by decide +kernel,by decide +kernel,by decide +kernel⟩ ⟨by decide +kernel,by decide +kernel,by decide +kernel⟩
  rwa [show v3a (⟨0,0,0⟩:V3) (⟨0,1,0⟩:V3)=(⟨0,1,0⟩:V3) from by unfold v3a;simp;try decide +kernel] at this
 have hA3:CallP Tryz.prog 63 [ptL (⟨1,0,0⟩:V3),ptL (⟨0,1,0⟩:V3)] (ptL (⟨1,1,0⟩:V3)):=by
  have:=c_FVAdd (⟨1,0,0⟩:V3) (⟨0,1,0⟩:V3) 10 (by decide) ⟨by decide +kernel,by decide +kernel,by decide +kernel⟩ ⟨by decide +kernel,by decide +kernel,by decide +kernel⟩
  rwa [show v3a (⟨1,0,0⟩:V3) (⟨0,1,0⟩:V3)=(⟨1,1,0⟩:V3) from by unfold v3a;simp;try decide +kernel] at this
 have hA4:CallP Tryz.prog 63 [ptL (⟨0,0,0⟩:V3),ptL (⟨1,1,0⟩:V3)] (ptL (⟨1,1,0⟩:V3)):=by
  have:=c_FVAdd (⟨0,0,0⟩:V3) (⟨1,1,0⟩:V3) 10 (by decide) ⟨by decide +kernel,by decide +kernel,by decide +kernel⟩ ⟨by decide +kernel,by decide +kernel,by decide +kernel⟩
  rwa [show v3a (⟨0,0,0⟩:V3) (⟨1,1,0⟩:V3)=(⟨1,1,0⟩:V3) from by unfold v3a;simp;try decide +kernel] at this
 have hBi:CallP Tryz.prog 22 [ptL ⟨0,0,0⟩,ptL ⟨1,0,0⟩,ptL ⟨0,1,0⟩,ptL ⟨1,1,0⟩] (.agg [nI64 1,nI64 1,.list 3 ((kn2 1 0 1).map ratL),.list 3 ((kn2 1 0 1).map ratL),.list 1 ((sqF 0).map prL)]):=c_Bil ⟨0,0,0⟩ ⟨1,0,0⟩ ⟨0,1,0⟩ ⟨1,1,0⟩
 refine fnP Tryz.func23 (ht:=(fun g=>LV.ren_pure g _ (by simp [LV.pure,pures,pures_map ratE,pures_map prE]))) ?_
 refine zg7 ?_
 refine cp am1 (c_Unit0) ?_
 refine cp am1 (c_Unit1) ?_
 refine st_pure rfl (.build0 SL32 Z32a) ?_
 refine st_pure rfl (.build0 SL32 Z32a) ?_
 refine zg1 ?_
 refine cp am1 (hI) ?_
 refine zg10 ?_
 refine wl_regD 13 (by decide +kernel) ?_
 refine zg3 ?_
 refine cp am2 (hA1) ?_
 refine zg2 ?_
 refine cp am2 (hA2) ?_
 refine zg3 ?_
 refine cp am2 (hA3) ?_
 refine cp am2 (hA4) ?_
 refine cp am4 (hBi) ?_
 refine zg4 ?_
 exact retC [] rfl rfl rfl cs (at_all cs rfl) T29 (.pure hsp)
namespace H_c_sq1
theorem zSm {p q:Prop} (k:q) (e:p=q:=by simp only [e1,e2,e3,e4,p1,p2,p3,q1,q2,q3,l1,t0,t1,r1,r2,r3,r4,Nat.zero_add,Nat.reduceMul,Nat.reduceAdd,b1,b2,b3,b4,b5,b6,i1,i2,i3,i4,i5,i6,Nat.reduceBEq,prL_kill,kills_map prE,dfr,dfq,take_map_len,map_snoc,len_snoc,List.length_cons,List.length_nil,List.nil_append,List.map_nil,List.take_nil,List.append_nil,List.set_cons_zero,List.set_cons_succ,Nat.reduceEqDiff,reduceIte,if_true,if_false,ptL_kill,poL_kill,kills_map ptE,kills_map poE,kills_map ratE,ratL_kill,spL_kill,LV.kill,kills];exact rfl):p:=e.mpr k
end H_c_sq1
open H_c_sq1 in
theorem c_sq1 :CallP Tryz.prog 23 [iL 1] (.agg [nI64 1,nI64 1,.list 3 ((kn2 1 0 1).map ratL),.list 3 ((kn2 1 0 1).map ratL),.list 1 ((sqF 1).map prL)]):=by
 have hsp:LV.pure (.agg [nI64 1,nI64 1,.list 3 ((kn2 1 0 1).map ratL),.list 3 ((kn2 1 0 1).map ratL),.list 1 ((sqF 1).map prL)])=true:=by simp [LV.pure,pures,pures_map ratE,pures_map prE]
 have hI:CallP Tryz.prog 20 [iL 1] (ratL 1):=c_FInt 1 (by decide) (by decide)
 have hA1:CallP Tryz.prog 63 [ptL (⟨0,0,1⟩:V3),ptL (⟨1,0,0⟩:V3)] (ptL (⟨1,0,1⟩:V3)):=by
  have:=c_FVAdd (⟨0,0,1⟩:V3) (⟨1,0,0⟩:V3) 10 (by decide) ⟨by decide +kernel,by decide +kernel,by decide +kernel⟩ ⟨by decide +kernel,by decide +kernel,by decide +kernel⟩
  rwa [show v3a (⟨0,0,1⟩:V3) (⟨1,0,0⟩:V3)=(⟨1,0,1⟩:V3) from by unfold v3a;simp;try decide +kernel] at this
 have hA2:CallP Tryz.prog 63 [ptL (⟨0,0,1⟩:V3),ptL (⟨0,1,0⟩:V3)] (ptL (⟨0,1,1⟩:V3)):=by
  have:=c_FVAdd (⟨0,0,1⟩:V3) (⟨0,1,0⟩:V3) 10 (by decide) ⟨by decide +kernel,by decide +kernel,by decide +kernel⟩ ⟨by decide +kernel,by decide +kernel,by decide +kernel⟩
  rwa [show v3a (⟨0,0,1⟩:V3) (⟨0,1,0⟩:V3)=(⟨0,1,1⟩:V3) from by unfold v3a;simp;try decide +kernel] at this
 have hA3:CallP Tryz.prog 63 [ptL (⟨1,0,0⟩:V3),ptL (⟨0,1,0⟩:V3)] (ptL (⟨1,1,0⟩:V3)):=by
  have:=c_FVAdd (⟨1,0,0⟩:V3) (⟨0,1,0⟩:V3) 10 (by decide) ⟨by decide +kernel,by decide +kernel,by decide +kernel⟩ ⟨by decide +kernel,by decide +kernel,by decide +kernel⟩
  rwa [show v3a (⟨1,0,0⟩:V3) (⟨0,1,0⟩:V3)=(⟨1,1,0⟩:V3) from by unfold v3a;simp;try decide +kernel] at this
 have hA4:CallP Tryz.prog 63 [ptL (⟨0,0,1⟩:V3),ptL (⟨1,1,0⟩:V3)] (ptL (⟨1,1,1⟩:V3)):=by
  have:=c_FVAdd (⟨0,0,1⟩:V3) (⟨1,1,0⟩:V3) 10 (by decide) ⟨by decide +kernel,by decide +kernel,by decide +kernel⟩ ⟨by decide +kernel,by decide +kernel,by decide +kernel⟩
  rwa [show v3a (⟨0,0,1⟩:V3) (⟨1,1,0⟩:V3)=(⟨1,1,1⟩:V3) from by unfold v3a;simp;try decide +kernel] at this
 have hBi:CallP Tryz.prog 22 [ptL ⟨0,0,1⟩,ptL ⟨1,0,1⟩,ptL ⟨0,1,1⟩,ptL ⟨1,1,1⟩] (.agg [nI64 1,nI64 1,.list 3 ((kn2 1 0 1).map ratL),.list 3 ((kn2 1 0 1).map ratL),.list 1 ((sqF 1).map prL)]):=c_Bil ⟨0,0,1⟩ ⟨1,0,1⟩ ⟨0,1,1⟩ ⟨1,1,1⟩
 refine fnP Tryz.func23 (ht:=(fun g=>LV.ren_pure g _ (by simp [LV.pure,pures,pures_map ratE,pures_map prE]))) ?_
 refine zg7 ?_
 refine cp am1 (c_Unit0) ?_
 refine cp am1 (c_Unit1) ?_
 refine st_pure rfl (.build0 SL32 Z32a) ?_
 refine st_pure rfl (.build0 SL32 Z32a) ?_
 refine zg1 ?_
 refine cp am1 (hI) ?_
 refine zg10 ?_
 refine wl_regD 13 (by decide +kernel) ?_
 refine zg3 ?_
 refine cp am2 (hA1) ?_
 refine zg2 ?_
 refine cp am2 (hA2) ?_
 refine zg3 ?_
 refine cp am2 (hA3) ?_
 refine cp am2 (hA4) ?_
 refine cp am4 (hBi) ?_
 refine zg4 ?_
 exact retC [] rfl rfl rfl cs (at_all cs rfl) T29 (.pure hsp)
namespace H_c_awake19
theorem zSm {p q:Prop} (k:q) (e:p=q:=by simp only [e1,e2,e3,e4,p1,p2,p3,q1,q2,q3,l1,t0,t1,r1,r2,r3,r4,Nat.zero_add,Nat.reduceMul,Nat.reduceAdd,b1,b2,b3,b4,b5,b6,i1,i2,i3,i4,i5,i6,Nat.reduceBEq,celL,List.getD_cons_zero,prL_kill,kills_map prE,dfr,dfq,take_map_len,map_snoc,len_snoc,List.length_cons,List.length_nil,List.nil_append,List.map_nil,List.take_nil,List.append_nil,List.set_cons_zero,List.set_cons_succ,Nat.reduceEqDiff,reduceIte,if_true,if_false,ptL_kill,poL_kill,kills_map ptE,kills_map poE,kills_map ratE,ratL_kill,spL_kill,LV.kill,kills];exact rfl):p:=e.mpr k
end H_c_awake19
open H_c_awake19 in
theorem c_awake19 :CallP Tryz.prog 7 [] (bL true):=by
 have hq0:LV.pure (.agg [nI64 1,nI64 1,.list 3 ((kn2 1 0 1).map ratL),.list 3 ((kn2 1 0 1).map ratL),.list 1 ((sqF 0).map prL)])=true:=by simp [LV.pure,pures,pures_map ratE,pures_map prE]
 have hq1:LV.pure (.agg [nI64 1,nI64 1,.list 3 ((kn2 1 0 1).map ratL),.list 3 ((kn2 1 0 1).map ratL),.list 1 ((sqF 1).map prL)])=true:=by simp [LV.pure,pures,pures_map ratE,pures_map prE]
 have hqw:LV.pure (.agg [nI64 1,nI64 1,.list 3 ((kn2 1 0 1).map ratL),.list 3 ((kn2 1 0 1).map ratL),.list 1 ((waF (1/3) 1).map prL)])=true:=by simp [LV.pure,pures,pures_map ratE,pures_map prE]
 have hFr:CallP Tryz.prog 24 [iL 1,iL 3] (ratL (1/3)):=c_FFrac 1 3 (by decide) (by decide) (by decide) (by decide) (by decide)
 have hI1:CallP Tryz.prog 20 [iL 1] (ratL 1):=c_FInt 1 (by decide) (by decide)
 have hIm:CallP Tryz.prog 20 [iL (-1)] (ratL (-1)):=by
  have:=c_FInt (-1) (by decide) (by decide)
  rwa [show (((-1:Int)):Rat)=-1 from by decide +kernel] at this
 have hBi:CallP Tryz.prog 22 [ptL ⟨1/3,0,-1⟩,ptL ⟨1/3,1,-1⟩,ptL ⟨1/3,0,1⟩,ptL ⟨1/3,1,1⟩] (.agg [nI64 1,nI64 1,.list 3 ((kn2 1 0 1).map ratL),.list 3 ((kn2 1 0 1).map ratL),.list 1 ((waF (1/3) 1).map prL)]):=c_Bil ⟨1/3,0,-1⟩ ⟨1/3,1,-1⟩ ⟨1/3,0,1⟩ ⟨1/3,1,1⟩
 have hprc:LV.pure (.agg [iL 0,iL 9,ratL 0])=true:=by simp [LV.pure,pures,ratE.pure]
 have hM1:CallP Tryz.prog 11 [.agg [nI64 1,nI64 1,.list 3 ((kn2 1 0 1).map ratL),.list 3 ((kn2 1 0 1).map ratL),.list 1 ((sqF 0).map prL)],.agg [nI64 1,nI64 1,.list 3 ((kn2 1 0 1).map ratL),.list 3 ((kn2 1 0 1).map ratL),.list 1 ((waF (1/3) 1).map prL)],.agg [iL 0,iL 9,ratL 0]] (.tup [.list 4 [celL [((0:Rat),(1:Rat)),(0,1)] [((0:Rat),(1:Rat)),(0,1)] 4 1],iL 0]):=meetW (x:=1/3) (h:=1) (by decide +kernel) (by decide +kernel) (by decide +kernel) 0 9 (by decide) (by decide) (by decide)
 have hM2:CallP Tryz.prog 11 [.agg [nI64 1,nI64 1,.list 3 ((kn2 1 0 1).map ratL),.list 3 ((kn2 1 0 1).map ratL),.list 1 ((sqF 0).map prL)],.agg [nI64 1,nI64 1,.list 3 ((kn2 1 0 1).map ratL),.list 3 ((kn2 1 0 1).map ratL),.list 1 ((sqF 1).map prL)],.agg [iL 0,iL 9,ratL 0]] (.tup [.v (.slice none 0 0),iL 0]):=meetA 0 9 (by decide) (by decide) (by decide)
 refine fnP Tryz.func7 ?_
 refine zg7 ?_
 refine cp am2 (hFr) ?_
 refine cp am1 (hI1) ?_
 refine zg7 ?_
 refine wl_regD 18 (by decide +kernel) ?_
 refine zg1 ?_
 refine st_pure rfl (.build0 SL32 Z32a) ?_
 refine cp am1 (hIm) ?_
 refine zg3 ?_
 refine cp am1 (hIm) ?_
 refine zg2 ?_
 refine st_pure rfl (.build0 SL32 Z32a) ?_
 refine zg6 ?_
 refine cp am4 (hBi) ?_
 refine zg5 ?_
 refine wl_regD 9 (by decide +kernel) ?_
 refine cp am1 (c_sq0) ?_
 refine zg1 ?_
 refine st_pure rfl (show OpP _ _ _ _ (.agg [iL 0,iL 9,ratL 0]) from .build (zs:=[.v (.int .i64 0),.v (.int .i64 0),ratL 0]) (by simpa [lay,LV.csize,csizes,isAgg_v,ratE.csize,ratE.isAgg] using SL38) Z38 (by simp only [List.forall_mem_cons];exact⟨⟨_,rfl,rfl,ne0⟩,fun _ h=>by cases h⟩)) ?_
 try refine zSm ?_
 refine st_callP rfl (.cons (.pure hq0) (.cons (.pure hqw) (.cons (.pure hprc) .nil))) (hM1) ?_
 refine zg9 ?_
 refine cp am1 (c_sq0) ?_
 refine cp am1 (c_sq1) ?_
 refine st_pure rfl (show OpP _ _ _ _ (.agg [iL 0,iL 9,ratL 0]) from .build (zs:=[.v (.int .i64 0),.v (.int .i64 0),ratL 0]) (by simpa [lay,LV.csize,csizes,isAgg_v,ratE.csize,ratE.isAgg] using SL38) Z38 (by simp only [List.forall_mem_cons];exact⟨⟨_,rfl,rfl,ne0⟩,fun _ h=>by cases h⟩)) ?_
 try refine zSm ?_
 refine st_callP rfl (.cons (.pure hq0) (.cons (.pure hq1) (.cons (.pure hprc) .nil))) (hM2) ?_
 refine zg12 ?_
 refine st_pure (guardX (v:=true) rfl rfl ((rfl)) rfl) (.move _) ?_
 refine st_pure (guardX (v:=true) rfl rfl ((rfl)) rfl) lnA ?_
 refine st_pure (guardX (v:=true) rfl rfl ((rfl)) rfl) (.bin rfl rfl rfl) ?_
 refine st_pure rfl (.pickT rfl ((rfl))) ?_
 refine zg1 ?_
 refine st_pure (guardX (v:=true) rfl rfl ((rfl)) rfl) (.move _) ?_
 refine st_pure (guardX (v:=true) rfl rfl ((rfl)) rfl) (.idxL rfl Tryz.underlying40 T48 rfl (by decide) rfl rfl) ?_
 refine st_pure (guardX (v:=true) rfl rfl ((rfl)) rfl) faA ?_
 refine st_pure (guardX (v:=true) rfl rfl ((rfl)) rfl) ldA ?_
 refine st_pure (guardX (v:=true) rfl rfl ((rfl)) rfl) (.bin rfl rfl rfl) ?_
 refine st_pure rfl (.pickT rfl ((rfl))) ?_
 refine zg1 ?_
 refine st_pure (guardX (v:=true) rfl rfl ((rfl)) rfl) (.move _) ?_
 refine st_pure (guardX (v:=true) rfl rfl ((rfl)) rfl) (.idxL rfl Tryz.underlying40 T48 rfl (by decide) rfl rfl) ?_
 refine st_pure (guardX (v:=true) rfl rfl ((rfl)) rfl) faA ?_
 refine st_pure (guardX (v:=true) rfl rfl ((rfl)) rfl) ldA ?_
 refine st_pure (guardX (v:=true) rfl rfl ((rfl)) rfl) (.bin rfl rfl rfl) ?_
 refine st_pure rfl (.pickT rfl ((rfl))) ?_
 refine zg1 ?_
 refine st_pure (guardX (v:=true) rfl rfl ((rfl)) rfl) (.move _) ?_
 refine st_pure (guardX (v:=true) rfl rfl ((rfl)) rfl) (.bin rfl rfl rfl) ?_
 refine st_pure rfl (.pickT rfl ((rfl))) ?_
 refine zg1 ?_
 refine st_pure (guardX (v:=true) rfl rfl ((rfl)) rfl) (.move _) ?_
 refine st_pure (guardX (v:=true) rfl rfl ((rfl)) rfl) lnA ?_
 refine st_pure (guardX (v:=true) rfl rfl ((rfl)) rfl) (.bin rfl rfl rfl) ?_
 refine st_pure rfl (.pickT rfl ((rfl))) ?_
 refine zg4 ?_
 exact ret1 rfl (.pure rfl)
namespace H_c_MeetssFlat
theorem zSm {p q:Prop} (k:q) (e:p=q:=by simp only [e1,e2,e3,e4,p1,p2,p3,q1,q2,q3,l1,t0,t1,r1,r2,r3,r4,Nat.zero_add,Nat.reduceMul,Nat.reduceAdd,b1,b2,b3,b4,b5,b6,i1,i2,i3,i4,i5,i6,Nat.reduceBEq,celL,List.getD_cons_zero,List.getD_cons_succ,prL_kill,kills_map prE,dfr,dfq,take_map_len,map_snoc,len_snoc,List.length_cons,List.length_nil,List.nil_append,List.map_nil,List.take_nil,List.append_nil,List.set_cons_zero,List.set_cons_succ,Nat.reduceEqDiff,reduceIte,if_true,if_false,ptL_kill,poL_kill,kills_map ptE,kills_map poE,kills_map ratE,ratL_kill,spL_kill,LV.kill,kills];exact rfl):p:=e.mpr k
end H_c_MeetssFlat
open H_c_MeetssFlat in
theorem c_MeetssFlat (i m depth j:Int) (hi:-9223372036854775808≤i∧i≤9223372036854775807) (hm:-9223372036854775808≤m∧m≤9223372036854775807) (hd:-9223372036854775808≤depth∧depth≤9223372036854775807) (hj:-9223372036854775808≤j∧j≤9223372036854775807):CallP Tryz.prog 5 [iL i,iL m,iL depth,iL j] (bL true):=by
 obtain⟨k,hk⟩:∃ k:Int,1+m % 3=k:=⟨_,rfl⟩
 have hk1:1≤k:=by omega
 have hk3:k≤3:=by omega
 obtain⟨dn,hdn⟩:∃ dn:Nat,depth % 5=(dn:Int):=⟨(depth % 5).toNat,by omega⟩
 have hdl:dn≤24:=by omega
 have hxr:=ptV_rl i
 have hyr:=ptV_rl j
 obtain⟨hx0,hx1⟩:=ptV_in i
 obtain⟨hy0,hy1⟩:=ptV_in j
 have hkr:rl (k:Rat)≤1:=by
  have e:k=1∨k=2∨k=3:=by omega
  rcases e with rfl | rfl | rfl<;>decide +kernel
 have hPx:=c_MPart i hi
 have hPy:=c_MPart j hj
 have hM3:CallP Tryz.prog 9 [iL m,iL 3] (iL (m % 3)):=c_Mod m 3 (by decide) (by decide)
 have hM5:CallP Tryz.prog 9 [iL depth,iL 5] (nI64 dn):=by
  have:=c_Mod depth 5 (by decide) (by decide)
  rwa [hdn] at this
 have hIk:CallP Tryz.prog 20 [iL k] (ratL (k:Rat)):=c_FInt k (by omega) (by omega)
 have hI1:CallP Tryz.prog 20 [iL 1] (ratL 1):=c_FInt 1 (by decide) (by decide)
 have hNe:=c_FNeg (k:Rat)
 have hBi:CallP Tryz.prog 22 [ptL ⟨(ptV i),0,-(k:Rat)⟩,ptL ⟨(ptV i),1,-(k:Rat)⟩,ptL ⟨(ptV i),0,(k:Rat)⟩,ptL ⟨(ptV i),1,(k:Rat)⟩] (.agg [nI64 1,nI64 1,.list 3 ((kn2 1 0 1).map ratL),.list 3 ((kn2 1 0 1).map ratL),.list 1 ((waF (ptV i) (k:Rat)).map prL)]):=c_Bil ⟨(ptV i),0,-(k:Rat)⟩ ⟨(ptV i),1,-(k:Rat)⟩ ⟨(ptV i),0,(k:Rat)⟩ ⟨(ptV i),1,(k:Rat)⟩
 have hM:CallP Tryz.prog 11 [.agg [nI64 1,nI64 1,.list 3 ((kn2 1 0 1).map ratL),.list 3 ((kn2 1 0 1).map ratL),.list 1 ((sqF 0).map prL)],.agg [nI64 1,nI64 1,.list 3 ((kn2 1 0 1).map ratL),.list 3 ((kn2 1 0 1).map ratL),.list 1 ((waF (ptV i) (k:Rat)).map prL)],.agg [nI64 dn,iL 100,ratL 0]] (.tup [.list 4 [celL [((0:Rat),(1:Rat)),(0,1)] [((0:Rat),(1:Rat)),(0,1)] 4 1],iL 0]):=meetW hxr hkr (ok_pt i hk1 hk3) dn 100 hdl (by decide) (by decide)
 have hprc:LV.pure (.agg [nI64 dn,iL 100,ratL 0])=true:=by simp [LV.pure,pures,ratE.pure]
 have hHf:CallP Tryz.prog 24 [iL 1,iL 2] (ratL (1/2)):=c_FFrac 1 2 (by decide) (by decide) (by decide) (by decide) (by decide)
 have hHas:∀ t:Rat,rl t≤1→0≤t→t≤1→CallP Tryz.prog 14 [spL (0,1),ratL t] (bL true):=fun t ht h0 h1=>by
  have r0:rl 0=1:=rfl
  have r1':rl 1=1:=rfl
  have:=c_FHas (0,1) t (by show rl 0+rl t≤_;omega) (by show rl t+rl 1≤_;omega)
  unfold hasR at this
  rw [decide_eq_true h0,decide_eq_true h1] at this
  exact this
 have hHx:=hHas (ptV i) hxr hx0 hx1
 have hHy:=hHas (ptV j) hyr hy0 hy1
 have hHh:=hHas (1/2) (by decide +kernel) (by decide +kernel) (by decide +kernel)
 have hq0:LV.pure (.agg [nI64 1,nI64 1,.list 3 ((kn2 1 0 1).map ratL),.list 3 ((kn2 1 0 1).map ratL),.list 1 ((sqF 0).map prL)])=true:=by simp [LV.pure,pures,pures_map ratE,pures_map prE]
 have hqw:LV.pure (.agg [nI64 1,nI64 1,.list 3 ((kn2 1 0 1).map ratL),.list 3 ((kn2 1 0 1).map ratL),.list 1 ((waF (ptV i) (k:Rat)).map prL)])=true:=by simp [LV.pure,pures,pures_map ratE,pures_map prE]
 refine fnP Tryz.func5 ?_
 refine zg8 ?_
 refine cp am1 (hPx) ?_
 refine zg7 ?_
 refine cp am2 (hM3) ?_
 refine st_pure rfl (.bin rfl rfl (show binI .add .i64 1 (m % 3)=some (.int .i64 k) from by rw [←hk];exact add64 (by omega) (by omega))) ?_
 refine cp am1 (hIk) ?_
 refine zg6 ?_
 refine cp am1 (hI1) ?_
 refine zg7 ?_
 refine cp am1 (hNe) ?_
 refine zg7 ?_
 refine st_pure rfl (.build0 SL32 Z32a) ?_
 refine zg7 ?_
 refine st_pure rfl (.build0 SL32 Z32a) ?_
 refine zg6 ?_
 refine cp am4 (hBi) ?_
 refine zg5 ?_
 refine wl_regD 11 (by decide +kernel) ?_
 refine cp am1 (c_sq0) ?_
 refine zg2 ?_
 refine cp am2 (hM5) ?_
 refine st_pure rfl (show OpP _ _ _ _ (.agg [nI64 dn,iL 100,ratL 0]) from .build (zs:=[.v (.int .i64 0),.v (.int .i64 0),ratL 0]) (by simpa [lay,LV.csize,csizes,isAgg_v,ratE.csize,ratE.isAgg] using SL38) Z38 (by simp only [List.forall_mem_cons];exact⟨⟨_,rfl,rfl,ne0⟩,⟨_,rfl,rfl,ne0⟩,fun _ h=>by cases h⟩)) ?_
 try refine zSm ?_
 refine st_callP rfl (.cons (.pure hq0) (.cons (.pure hqw) (.cons (.pure hprc) .nil))) (hM) ?_
 refine zg10 ?_
 refine cp am1 (hPy) ?_
 refine zg16 ?_
 refine wl_unroll ?_
 refine zg9 ?_
 refine wl_condX (b:=_) rfl (rfl) ?_
 refine zg9 ?_
 refine st_pure rfl (.idxL rfl Tryz.underlying40 T48 rfl (by decide) rfl rfl) ?_
 refine zg4 ?_
 refine st_pure (guardX (v:=false) rfl rfl ((rfl)) rfl) (.move _) ?_
 refine st_pure (guardX (v:=false) rfl rfl ((rfl)) rfl) (.move _) ?_
 refine st_pure (guardX (v:=false) rfl rfl ((rfl)) rfl) (.idxL rfl Tryz.underlying40 T48 rfl (by decide) rfl rfl) ?_
 refine st_pure (guardX (v:=false) rfl rfl ((rfl)) rfl) faA ?_
 refine st_pure (guardX (v:=false) rfl rfl ((rfl)) rfl) ldA ?_
 refine st_pure (guardX (v:=false) rfl rfl ((rfl)) rfl) lnA ?_
 refine st_pure (guardX (v:=false) rfl rfl ((rfl)) rfl) (.bin rfl rfl rfl) ?_
 refine st_pure rfl (.pickF rfl ((rfl))) ?_
 refine zg1 ?_
 refine st_pure (guardX (v:=false) rfl rfl ((rfl)) rfl) (.move _) ?_
 refine st_pure (guardX (v:=false) rfl rfl ((rfl)) rfl) (.move _) ?_
 refine st_pure (guardX (v:=false) rfl rfl ((rfl)) rfl) (.idxL rfl Tryz.underlying40 T48 rfl (by decide) rfl rfl) ?_
 refine st_pure (guardX (v:=false) rfl rfl ((rfl)) rfl) faA ?_
 refine st_pure (guardX (v:=false) rfl rfl ((rfl)) rfl) ldA ?_
 refine st_pure (guardX (v:=false) rfl rfl ((rfl)) rfl) lnA ?_
 refine st_pure (guardX (v:=false) rfl rfl ((rfl)) rfl) (.bin rfl rfl rfl) ?_
 refine st_pure rfl (.pickF rfl ((rfl))) ?_
 refine zg2 ?_
 refine wl_condY (b:=_) rfl (rfl) ?_
 refine zg2 ?_
 refine wl_regD 46 (by decide +kernel) ?_
 refine zg4 ?_
 refine st_pure (guardX (v:=false) rfl rfl (rfl) rfl) (.idxL rfl Tryz.underlying40 T48 rfl (by decide) rfl rfl) ?_
 refine zg5 ?_
 refine cp am2 (hHx) ?_
 refine zg1 ?_
 refine st_pure (guardX (v:=true) rfl rfl ((rfl)) rfl) (.move _) ?_
 refine st_pure (guardX (v:=true) rfl rfl ((rfl)) rfl) (.move _) ?_
 refine st_pure (guardX (v:=true) rfl rfl ((rfl)) rfl) (.idxL rfl Tryz.underlying40 T48 rfl (by decide) rfl rfl) ?_
 refine st_pure (guardX (v:=true) rfl rfl ((rfl)) rfl) faA ?_
 refine st_pure (guardX (v:=true) rfl rfl ((rfl)) rfl) ldA ?_
 refine st_pure (guardX (v:=true) rfl rfl ((rfl)) rfl) ixA ?_
 refine st_pure (guardX (v:=true) rfl rfl ((rfl)) rfl) ldA ?_
 refine st_pure (guardX (v:=true) rfl rfl ((rfl)) rfl) ldA ?_
 refine st_callP (guardX (v:=true) rfl rfl ((rfl)) rfl) (.cons im0 (.cons im0 .nil)) (hHy) ?_
 refine st_pure (guardX (v:=false) rfl rfl (rfl) rfl) (.pickT rfl ((rfl))) ?_
 refine zg1 ?_
 refine st_pure (guardX (v:=true) rfl rfl ((rfl)) rfl) (.move _) ?_
 refine st_pure (guardX (v:=true) rfl rfl ((rfl)) rfl) (.move _) ?_
 refine st_pure (guardX (v:=true) rfl rfl ((rfl)) rfl) (.idxL rfl Tryz.underlying40 T48 rfl (by decide) rfl rfl) ?_
 refine st_pure (guardX (v:=true) rfl rfl ((rfl)) rfl) faA ?_
 refine st_pure (guardX (v:=true) rfl rfl ((rfl)) rfl) ldA ?_
 refine st_pure (guardX (v:=true) rfl rfl ((rfl)) rfl) ixA ?_
 refine st_pure (guardX (v:=true) rfl rfl ((rfl)) rfl) ldA ?_
 refine st_pure (guardX (v:=true) rfl rfl ((rfl)) rfl) ldA ?_
 refine st_callP (guardX (v:=true) rfl rfl ((rfl)) rfl) (.cons im0 (.cons im0 .nil)) (hHy) ?_
 refine st_pure (guardX (v:=false) rfl rfl (rfl) rfl) (.pickT rfl ((rfl))) ?_
 refine zg1 ?_
 refine st_pure (guardX (v:=true) rfl rfl ((rfl)) rfl) (.move _) ?_
 refine st_pure (guardX (v:=true) rfl rfl ((rfl)) rfl) (.move _) ?_
 refine st_pure (guardX (v:=true) rfl rfl ((rfl)) rfl) (.idxL rfl Tryz.underlying40 T48 rfl (by decide) rfl rfl) ?_
 refine st_pure (guardX (v:=true) rfl rfl ((rfl)) rfl) faA ?_
 refine st_pure (guardX (v:=true) rfl rfl ((rfl)) rfl) ldA ?_
 refine st_pure (guardX (v:=true) rfl rfl ((rfl)) rfl) ixA ?_
 refine st_pure (guardX (v:=true) rfl rfl ((rfl)) rfl) ldA ?_
 refine st_callP (guardX (v:=true) rfl rfl ((rfl)) rfl) (.cons im0 (.cons im0 .nil)) (hHf) ?_
 refine st_callP (guardX (v:=true) rfl rfl ((rfl)) rfl) (.cons im0 (.cons im0 .nil)) (hHh) ?_
 refine st_pure (guardX (v:=false) rfl rfl (rfl) rfl) (.pickT rfl ((rfl))) ?_
 refine zg11 ?_
 refine wl_unroll ?_
 refine zg9 ?_
 refine wl_condY (b:=_) rfl (rfl) ?_
 refine zg10 ?_
 refine st_pure (guardX (v:=true) rfl rfl ((rfl)) rfl) (.move _) ?_
 refine st_pure (guardX (v:=true) rfl rfl ((rfl)) rfl) lnA ?_
 refine st_pure (guardX (v:=true) rfl rfl ((rfl)) rfl) (.bin rfl rfl rfl) ?_
 refine st_pure rfl (.pickT rfl ((rfl))) ?_
 refine zg1 ?_
 refine st_pure (guardX (v:=true) rfl rfl ((rfl)) rfl) (.move _) ?_
 refine st_pure rfl (.pickT rfl ((rfl))) ?_
 refine zg1 ?_
 refine st_callP (guardX (v:=true) rfl rfl ((rfl)) rfl) .nil (c_awake19) ?_
 refine st_pure rfl (.pickT rfl ((rfl))) ?_
 refine zg4 ?_
 exact ret1 rfl (.pure rfl)
end Go.Proofs.YthpfpgfehmhpdaaGreat
end
