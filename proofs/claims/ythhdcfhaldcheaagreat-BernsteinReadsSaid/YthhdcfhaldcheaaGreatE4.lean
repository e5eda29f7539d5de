/- The lesser and the greater of two numbers; spans of the document. -/
import Derived.Test.YthhdcfhaldcheaaGreatE3
set_option linter.unusedVariables false
set_option linter.unusedSimpArgs false
set_option maxHeartbeats 8000000
set_option maxRecDepth 100000
attribute [local irreducible] Go.Lg.opsL Go.Lg.wpL Go.Lg.thenL Go.Lg.blockL
namespace Go.Proofs.YthhdcfhaldcheaaGreat
open Go.Lg
open H0 in
theorem c_FMin (a b : Rat) (h : rl a + rl b ≤ 34359738368) : CallP Tryz.prog 44 [ratL a, ratL b] (ratL (mnR a b)) := by
  refine fnP Tryz.func44 ?_
  refine zg12 ?_
  refine cp am2 (c_FRCmp _ _ (by omega)) ?_
  refine zg3 ?_
  refine wl_if rfl (fun h8r h8 => ?_) (fun h8r h8 => ?_)
  · have hE : mnR a b = b := if_pos (cmpR_neg.1 h8)
    refine zg8 ?_
    rw [hE]
    exact retC [] rfl rfl rfl (ratE.csize _) (ratL_all _) T33 (.pure (ratE.pure _))
  · have hE : mnR a b = a := if_neg (fun e => h8 (cmpR_neg.2 e))
    refine zg9 ?_
    rw [hE]
    exact retC [] rfl rfl rfl (ratE.csize _) (ratL_all _) T33 (.pure (ratE.pure _))
open H0 in
theorem c_FMax (a b : Rat) (h : rl a + rl b ≤ 34359738368) : CallP Tryz.prog 45 [ratL a, ratL b] (ratL (mxR a b)) := by
  refine fnP Tryz.func45 ?_
  refine zg12 ?_
  refine cp am2 (c_FRCmp _ _ (by omega)) ?_
  refine zg3 ?_
  refine wl_if rfl (fun h8r h8 => ?_) (fun h8r h8 => ?_)
  · have hE : mxR a b = b := if_pos (cmpR_pos.1 h8)
    refine zg8 ?_
    rw [hE]
    exact retC [] rfl rfl rfl (ratE.csize _) (ratL_all _) T33 (.pure (ratE.pure _))
  · have hE : mxR a b = a := if_neg (fun e => h8 (cmpR_pos.2 e))
    refine zg9 ?_
    rw [hE]
    exact retC [] rfl rfl rfl (ratE.csize _) (ratL_all _) T33 (.pure (ratE.pure _))
open H0 in
theorem c_FPoint (a : Rat) : CallP Tryz.prog 130 [ratL a] (spL (a, a)) := by
  refine fnP Tryz.func130 ?_
  refine zg15 ?_
  exact retC [] rfl rfl rfl (spE.csize _) (spL_all _) T55 (.pure (spE.pure _))
open H0 in
theorem c_FHull (s t : Rat × Rat) (h1 : rl s.1 + rl t.1 ≤ 34359738368) (h2 : rl s.2 + rl t.2 ≤ 34359738368) : CallP Tryz.prog 131 [spL s, spL t] (spL (hulP s t)) := by
  refine fnP Tryz.func131 ?_
  refine zg8 ?_
  refine wl_regD 11 (by decide +kernel) ?_
  refine zg4 ?_
  refine cp am2 (c_FMin _ _ (by omega)) ?_
  refine zg4 ?_
  refine cp am2 (c_FMax _ _ (by omega)) ?_
  refine zg5 ?_
  exact retC [] rfl rfl rfl (spE.csize _) (spL_all _) T55 (.pure (spE.pure _))
open H0 in
theorem c_FSpSame (s : Rat × Rat) (h1 : rl s.1 ≤ 17179869184) (h2 : rl s.2 ≤ 17179869184) : CallP Tryz.prog 58 [spL s, spL s] (bL true) := by
  refine fnP Tryz.func58 ?_
  refine zg13 ?_
  refine cp am2 (c_FSame _ _ (by omega)) ?_
  refine zg1 ?_
  refine st_pure (guardX (v := true) rfl rfl ((decide_eq_true rfl)) rfl) fa55 ?_
  refine st_pure (guardX (v := true) rfl rfl ((decide_eq_true rfl)) rfl) ld33 ?_
  refine st_pure (guardX (v := true) rfl rfl ((decide_eq_true rfl)) rfl) fa55 ?_
  refine st_pure (guardX (v := true) rfl rfl ((decide_eq_true rfl)) rfl) ld33 ?_
  refine st_callP (guardX (v := true) rfl rfl ((decide_eq_true rfl)) rfl) (.cons im0 (.cons im0 .nil)) (c_FSame _ _ (by omega)) ?_
  refine st_pure rfl (.pickT rfl ((decide_eq_true rfl))) ?_
  refine zg4 ?_
  exact ret1 (x := bL true) rfl (.pure rfl)
end Go.Proofs.YthhdcfhaldcheaaGreat
