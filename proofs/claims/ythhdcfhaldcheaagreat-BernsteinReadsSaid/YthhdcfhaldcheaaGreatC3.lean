/- Products of polynomials. -/
import Derived.Test.YthhdcfhaldcheaaGreatC2
set_option linter.unusedVariables false
set_option linter.unusedSimpArgs false
set_option maxHeartbeats 8000000
set_option maxRecDepth 100000
attribute [local irreducible] Go.Lg.opsL Go.Lg.wpL Go.Lg.thenL Go.Lg.blockL
namespace Go.Proofs.YthhdcfhaldcheaaGreat
open Go.Lg
open H0 in
theorem c_BMulErr (p q : List Rat) (hpl : p.length ≤ 1048576) (hql : q.length ≤ 1048576) (hp0 : 0 < p.length) (hq0 : 0 < q.length) (h : 40 < p.length - 1 + (q.length - 1)) : CallP Tryz.prog 31 [.list 3 (p.map ratL), .list 3 (q.map ratL)] (.tup [.list 3 (([] : List Rat).map ratL), iL 2]) := by
  refine fnP Tryz.func31 ?_
  refine zg10 ?_
  refine st_pure rfl (.bin rfl rfl (sub1N (by omega) (by omega))) ?_
  refine zg2 ?_
  refine st_pure rfl (.bin rfl rfl (sub1N (by omega) (by omega))) ?_
  refine zg9 ?_
  refine st_pure rfl (.bin rfl rfl (add64N (by omega))) ?_
  refine zg3 ?_
  refine wl_if rfl (fun h25r h25 => ?_) (fun h25r h25 => ?_)
  · refine zg8 ?_
    exact ret2 rfl (.nil 3) rfl (.pure rfl)
  · omega
namespace H_c_BMul
theorem zSm {p q : Prop} (k : q) (e : p = q := by simp only [e1, e2, e3, e4, p1, p2, p3, q1, q2, q3, l1, t0, t1, r1, r2, r3, r4, Nat.zero_add, Nat.reduceMul, Nat.reduceAdd, b1, b2, b3, b4, b5, b6, i1, i2, i3, i4, i5, i6, Nat.reduceBEq, dfq, List.length_set, rowM_len, allM_len, chR_len, eij, elz, ela, kills_map ratE, ratL_kill, LV.kill, kills]; exact rfl) : p := e.mpr k
end H_c_BMul
open H_c_BMul in
theorem c_BMul (p q : List Rat) (R : Nat) (hp0 : 0 < p.length) (hq0 : 0 < q.length) (h : p.length - 1 + (q.length - 1) ≤ 40) (hR1 : 1 ≤ R) (hR : R ≤ 67108864) (hpR : ∀ x ∈ p, rl x ≤ R) (hqR : ∀ x ∈ q, rl x ≤ R) : CallP Tryz.prog 31 [.list 3 (p.map ratL), .list 3 (q.map ratL)] (.tup [.list 3 ((mulP p q).map ratL), iL 0]) := by
  have hpl : p.length ≤ 41 := by omega
  have hql : q.length ≤ 41 := by omega
  refine fnP Tryz.func31 ?_
  have eij : True := trivial
  have elz : True := trivial
  have ela : True := trivial
  refine zg10 ?_
  refine st_pure rfl (.bin rfl rfl (sub1N (by omega) (by omega))) ?_
  refine zg2 ?_
  refine st_pure rfl (.bin rfl rfl (sub1N (by omega) (by omega))) ?_
  refine zg9 ?_
  refine st_pure rfl (.bin rfl rfl (add64N (by omega))) ?_
  refine zg3 ?_
  refine wl_if rfl (fun h25r h25 => ?_) (fun h25r h25 => ?_)
  · omega
  · refine zg8 ?_
    refine op_if 28 rfl (fun h28r h28 => ?_) (fun h28r h28 => ?_)
    · exfalso
      omega
    · refine zg5 ?_
      refine wl_if rfl (fun h31r h31 => ?_) (fun h31r h31 => ?_)
      · omega
      · refine zg5 ?_
        refine cp am1 (c_choose _ (by omega)) ?_
        refine zg1 ?_
        refine cp am1 (c_choose _ (by omega)) ?_
        refine zg2 ?_
        refine st_pure rfl (.bin rfl rfl (add64N (by omega))) ?_
        refine cp am1 (c_choose _ (by omega)) ?_
        refine zg9 ?_
        refine st_pure rfl (.bin rfl rfl (add64N (by omega))) ?_
        refine st_pure rfl (.bin rfl rfl (add1N (by omega))) ?_
        refine st_alloc rfl rfl (.mkE (n := (p.length - 1 + (q.length - 1) + 1)) (m := (p.length - 1 + (q.length - 1) + 1)) ml ml om om om) ?_
        refine zg12 ?_
        refine lp1 (fun (i : Nat) L => ((((((((((St.mk L.slot (hp [(44, ⟨3, (allM p q i).map ratL, true⟩)])).put (some 0) (.list 3 (p.map ratL))).put (some 1) (.list 3 (q.map ratL))).put (some 8) (.list 3 ((chR (p.length - 1)).map ratL))).put (some 9) (.list 3 ((chR (q.length - 1)).map ratL))).put (some 10) (.list 3 ((chR (p.length - 1 + (q.length - 1))).map ratL))).put (some 11) (.ref 44 3 0 (p.length - 1 + (q.length - 1) + 1))).put (some 45) (.list 3 (p.map ratL))).put (some 46) (nI64 p.length)).put (some 47) (nI64 i))) (fun i => i ≤ p.length) (fun i => p.length - i) 0 (Nat.zero_le _) ?_
        rintro i L1 hi
        refine zg6 ?_
        refine wl_if rfl (fun h48r h48 => ?_) (fun h48r h48 => ?_)
        · have hip : i < p.length := by omega
          have hx1 := chR_rl (n := p.length - 1) (by omega) _ (getD_mem (i := i) (by rw [chR_len]; omega))
          have hx2 := hpR _ (getD_mem (i := i) hip)
          have hx3 := rl_mul ((chR (p.length - 1)).getD i 0) (p.getD i 0)
          refine zg11 ?_
          refine wl_regD 10 (by decide +kernel) ?_
          refine zg8 ?_
          try simp only [t1, dfq]
          refine cp am2 (c_RMul _ _ (by omega)) ?_
          refine zg12 ?_
          refine lp1 (fun (j : Nat) L => (((((((((((((((St.mk L.slot (hp [(44, ⟨3, (rowM ((chR (p.length - 1)).getD i 0 * p.getD i 0) i (chR (q.length - 1)) q (allM p q i) j).map ratL, true⟩), (13, ⟨3, [ratL ((chR (p.length - 1)).getD i 0 * p.getD i 0)], true⟩)])).put (some 0) (.list 3 (p.map ratL))).put (some 1) (.list 3 (q.map ratL))).put (some 8) (.list 3 ((chR (p.length - 1)).map ratL))).put (some 9) (.list 3 ((chR (q.length - 1)).map ratL))).put (some 10) (.list 3 ((chR (p.length - 1 + (q.length - 1))).map ratL))).put (some 11) (.ref 44 3 0 (p.length - 1 + (q.length - 1) + 1))).put (some 45) (.list 3 (p.map ratL))).put (some 46) (nI64 p.length)).put (some 47) (nI64 i)).put (some 12) (nI64 i)).put (some 13) (.eptr 13 3 0 0)).put (some 59) (.list 3 (q.map ratL))).put (some 60) (nI64 q.length)).put (some 61) (nI64 j))) (fun j => j ≤ q.length) (fun j => q.length - j) 0 (Nat.zero_le _) ?_
          rintro j L2 hj
          refine zg6 ?_
          refine wl_if rfl (fun h62r h62 => ?_) (fun h62r h62 => ?_)
          · have hjq : j < q.length := by omega
            have eij : ((i : Int) + (j : Int)).toNat = i + j := by omega
            have hlr : (rowM ((chR (p.length - 1)).getD i 0 * p.getD i 0) i (chR (q.length - 1)) q (allM p q i) j).length = (p.length - 1 + (q.length - 1) + 1) := by rw [rowM_len, allM_len]
            have hS := allM_rl hpl hql hR1 hpR hqR i
            have ho := rowM_rl (i := i) (by omega) hS (show rl ((chR (p.length - 1)).getD i 0 * p.getD i 0) ≤ R + 2 by omega) (chR_rl (n := q.length - 1) (by omega)) hqR hR1 j
            have hbd := mul_bd (i := i) (j := j) (by omega) hql hj hR
            have hg1 := getD_rl (by omega) ho (i + j)
            have hg2 := chR_rl (n := q.length - 1) (by omega) _ (getD_mem (i := j) (by rw [chR_len]; omega))
            have hg3 := hqR _ (getD_mem (i := j) hjq)
            have hg4 := rl_mul ((chR (q.length - 1)).getD j 0) (q.getD j 0)
            have hg5 := rl_mul ((chR (p.length - 1)).getD i 0 * p.getD i 0) ((chR (q.length - 1)).getD j 0 * q.getD j 0)
            refine zg10 ?_
            refine wl_regD 23 (by decide +kernel) ?_
            refine zg3 ?_
            refine st_pure rfl (.bin rfl rfl (add64N (by omega))) ?_
            refine zg3 ?_
            refine st_pure rfl (.bin rfl rfl (add64N (by omega))) ?_
            refine zg11 ?_
            try simp only [t1, dfq, Nat.zero_add]
            refine cp am2 (c_RMul _ _ (by omega)) ?_
            try simp only [t1, dfq, Nat.zero_add]
            refine cp am2 (c_RMul _ _ (by omega)) ?_
            try simp only [t1, dfq, Nat.zero_add]
            refine cp am2 (c_RAdd _ _ (by omega)) ?_
            refine zg10 ?_
            exact nx1 (j + 1) (by omega)
          · obtain rfl : j = q.length := by omega
            refine zg6 ?_
            refine wl_regW (Weak.kill _ 13) ?_
            refine zg4 ?_
            exact nx1 (i + 1) (by omega)
        · obtain rfl : i = p.length := by omega
          refine zg14 ?_
          refine lp2 (fun (k : Nat) (w : List Rat) L => ((((((St.mk L.slot (hp [(44, ⟨3, w.map ratL, true⟩)])).put (some 10) (.list 3 ((chR (p.length - 1 + (q.length - 1))).map ratL))).put (some 11) (.ref 44 3 0 (p.length - 1 + (q.length - 1) + 1))).put (some 89) (.ref 44 3 0 (p.length - 1 + (q.length - 1) + 1))).put (some 90) (nI64 (p.length - 1 + (q.length - 1) + 1))).put (some 91) (nI64 k))) (fun k w => k ≤ (p.length - 1 + (q.length - 1) + 1) ∧ w.length = (p.length - 1 + (q.length - 1) + 1) ∧ w.take k = (mulP p q).take k ∧ ∀ x, k ≤ x → w.getD x 0 = (allM p q p.length).getD x 0) (fun k w => (p.length - 1 + (q.length - 1) + 1) - k) 0 (allM p q p.length) ⟨Nat.zero_le _, allM_len _ _ _, rfl, fun x _ => rfl⟩ ?_
          rintro k w L3 ⟨hk, hwl, hwt, hz⟩
          refine zg6 ?_
          refine wl_if rfl (fun h92r h92 => ?_) (fun h92r h92 => ?_)
          · have hkm : k < (p.length - 1 + (q.length - 1) + 1) := by omega
            have hS := allM_rl hpl hql hR1 hpR hqR p.length
            have hbd := mul_bd (i := p.length) (j := 0) hpl hql (by omega) hR
            have hg1 := getD_rl (by omega) hS k
            have hg2 := chR_rl (n := p.length - 1 + (q.length - 1)) h _ (getD_mem (i := k) (by rw [chR_len]; omega))
            have hzk := hz k (Nat.le_refl _)
            rw [← hzk] at hg1
            refine zg10 ?_
            refine wl_regD 12 (by decide +kernel) ?_
            refine zg10 ?_
            try simp only [t1, dfq, Nat.zero_add]
            refine cp am2 (c_quo _ _ (by omega)) ?_
            refine zg10 ?_
            exact nx2 (k + 1) (w.set k (w.getD k 0 / (chR (p.length - 1 + (q.length - 1))).getD k 0)) ⟨by omega, by simp [hwl], set_takeR (by rw [mulP_len]; omega) (by rw [mulP_len, hwl]) hwt (by rw [mulP_get (by omega), hz k (Nat.le_refl _)]), fun x hx => by rw [set_getD _ _ _ _ (by omega), if_neg (by omega)]; exact hz x (by omega)⟩
          · obtain rfl : k = (p.length - 1 + (q.length - 1) + 1) := by omega
            have hE : w = mulP p q := by
              rw [List.take_of_length_le (by omega), List.take_of_length_le (by rw [mulP_len]; omega)] at hwt
              exact hwt
            refine zg13 ?_
            rw [← hE]
            exact ret2f [44] rfl rfl (imm_refm ratE rfl rfl (by omega)) rfl (.pure rfl)
end Go.Proofs.YthhdcfhaldcheaaGreat
