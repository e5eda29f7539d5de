/- The laws of chapter 5: the examples. -/
import Derived.Test.YthhdcfhaldcheaaGreatB2
set_option linter.unusedVariables false
set_option linter.unusedSimpArgs false
set_option maxHeartbeats 8000000
set_option maxRecDepth 100000
attribute [local irreducible] Go.Lg.opsL Go.Lg.wpL Go.Lg.thenL Go.Lg.blockL
namespace Go.Proofs.YthhdcfhaldcheaaGreat
open Go.Lg
end Go.Proofs.YthhdcfhaldcheaaGreat
namespace Go.Lg
end Go.Lg
namespace Go.Proofs.YthhdcfhaldcheaaGreat
open Go.Lg
theorem half_eq : (((1 : Int) : Rat) / ((2 : Int) : Rat)) = 1 / 2 := rfl
theorem aw_HS : HS [0, 0, 1] (1 / 2) := ⟨3, by decide +kernel, by decide, by decide +kernel⟩
theorem aw_lo : loP [0, 0, 1] (1 / 2) = [0, 0, 1 / 4] := by decide +kernel
theorem aw_hi : hiP [0, 0, 1] (1 / 2) = [1 / 4, 1 / 2, 1] := by decide +kernel
theorem aw_ev : evP [0, 0, 1] (1 / 2) = 1 / 4 := by decide +kernel
theorem c_tx14 : CallP Tryz.prog 87 [ratL (1 / 4)] (.v (.string ⟨#[49, 47, 52]⟩)) := by
  have := c_FText (1 / 4) (by decide +kernel) (by decide +kernel) (by decide +kernel)
  rw [show (1 / 4 : Rat).den = 4 by decide +kernel, show (1 / 4 : Rat).num.natAbs = 1 by decide +kernel] at this
  exact this
theorem c_tx12 : CallP Tryz.prog 87 [ratL (1 / 2)] (.v (.string ⟨#[49, 47, 50]⟩)) := by
  have := c_FText (1 / 2) (by decide +kernel) (by decide +kernel) (by decide +kernel)
  rw [show (1 / 2 : Rat).den = 2 by decide +kernel, show (1 / 2 : Rat).num.natAbs = 1 by decide +kernel] at this
  exact this
theorem tz2 : (2 : Int).toNat = 2 := rfl
theorem frz7 (x : Blk) : frzH [7] [(7, x)] = [(7, ⟨x.sz, x.vals, x.mt && false⟩)] := rfl
namespace H_c_awake5
theorem zSm {p q : Prop} (k : q) (e : p = q := by simp only [e1, e2, e3, e4, p1, p2, p3, q1, q2, q3, l1, t0, t1, r1, r2, r3, r4, Nat.zero_add, Nat.reduceMul, Nat.reduceAdd, b1, b2, b3, b4, b5, b6, i1, i2, i3, i4, i5, i6, Nat.reduceBEq, List.length_cons, List.length_nil, frz7, half_eq, r1r, aw_lo, aw_hi, aw_ev, tz2, tz1, dfq]; exact rfl) : p := e.mpr k
end H_c_awake5
open H_c_awake5 in
theorem c_awake5  : CallP Tryz.prog 27 [] (bL true) := by
  refine fnP Tryz.func27 ?_
  refine zg7 ?_
  refine st_pure rfl (.build0 SL33 Z33a) ?_
  refine st_pure rfl (.build0 SL33 Z33a) ?_
  refine cp am1 (c_FInt 1 (by decide) (by decide)) ?_
  refine zg7 ?_
  refine cp am2 (c_FFrac 1 2 (by decide) (by decide) (by decide) (by decide) (by decide)) ?_
  refine cpf [7] fm2 (c_BSplit [0, 0, 1] (1 / 2) aw_HS) ?_
  refine zg10 ?_
  refine cp am2 (c_FFrac 1 2 (by decide) (by decide) (by decide) (by decide) (by decide)) ?_
  refine cpf [7] fm2 (c_BEval [0, 0, 1] (1 / 2) aw_HS (by decide)) ?_
  simp only [aw_ev]
  refine cp am1 (c_tx14) ?_
  refine st_pure rfl (.eqS rfl rfl) ?_
  refine zg1 ?_
  refine st_pure (guardX (v := true) rfl rfl ((by decide +kernel)) rfl) (.move _) ?_
  refine st_pure (guardX (v := true) rfl rfl ((by decide +kernel)) rfl) ln38 ?_
  refine st_pure (guardX (v := true) rfl rfl ((by decide +kernel)) rfl) (.bin rfl rfl rfl) ?_
  refine st_pure rfl (.pickT rfl ((by decide +kernel))) ?_
  refine zg1 ?_
  refine st_pure (guardX (v := true) rfl rfl ((by decide +kernel)) rfl) (.move _) ?_
  refine st_pure (guardX (v := true) rfl rfl ((by decide +kernel)) rfl) ln38 ?_
  refine st_pure (guardX (v := true) rfl rfl ((by decide +kernel)) rfl) (.bin rfl rfl rfl) ?_
  refine st_pure rfl (.pickT rfl ((by decide +kernel))) ?_
  refine zg1 ?_
  refine st_pure (guardX (v := true) rfl rfl ((by decide +kernel)) rfl) (.move _) ?_
  refine st_pure (guardX (v := true) rfl rfl ((by decide +kernel)) rfl) ix38 ?_
  refine st_pure (guardX (v := true) rfl rfl ((by decide +kernel)) rfl) ld33 ?_
  refine st_callP (guardX (v := true) rfl rfl ((by decide +kernel)) rfl) (.cons im0 .nil) (c_tx14) ?_
  refine st_pure (guardX (v := true) rfl rfl ((by decide +kernel)) rfl) (.eqS rfl rfl) ?_
  refine st_pure rfl (.pickT rfl ((by decide +kernel))) ?_
  refine zg1 ?_
  refine st_pure (guardX (v := true) rfl rfl ((by decide +kernel)) rfl) (.move _) ?_
  refine st_pure (guardX (v := true) rfl rfl ((by decide +kernel)) rfl) ix38 ?_
  refine st_pure (guardX (v := true) rfl rfl ((by decide +kernel)) rfl) ld33 ?_
  refine st_callP (guardX (v := true) rfl rfl ((by decide +kernel)) rfl) (.cons im0 .nil) (c_tx12) ?_
  refine st_pure (guardX (v := true) rfl rfl ((by decide +kernel)) rfl) (.eqS rfl rfl) ?_
  refine st_pure rfl (.pickT rfl ((by decide +kernel))) ?_
  refine zg1 ?_
  refine st_pure (guardX (v := true) rfl rfl ((by decide +kernel)) rfl) (.move _) ?_
  refine st_callPf [7] (guardX (v := true) rfl rfl ((by decide +kernel)) rfl) rfl (.cons im1 .nil) (c_BValid [0, 0, 1] (by decide) (by decide +kernel)) ?_
  refine st_pure rfl (.pickT rfl ((by decide +kernel))) ?_
  refine zg4 ?_
  exact ret1 rfl (by first | exact .pure rfl | exact .pure (limL_pure _) | exact .pure (magL_pure _) | exact .pure (ratE.pure _) | exact .pure (pure_lst u32E _ _) | exact .pure (pure_lst ratE _ _))
end Go.Proofs.YthhdcfhaldcheaaGreat
