/- Products of polynomials. -/
import Derived.Test.YthhdcfhaldcheaaC2
set_option linter.unusedVariables false
set_option linter.unusedSimpArgs false
namespace Go.Proofs.Ythhdcfhaldcheaa
open Go.Lg
open H0 in
set_option maxHeartbeats 1000000 in
set_option maxRecDepth 100000 in
theorem c_BMulErr (p q : List Rat) (hpl : p.length ≤ 1048576) (hql : q.length ≤ 1048576) (hp0 : 0 < p.length) (hq0 : 0 < q.length) (h : 40 < p.length - 1 + (q.length - 1)) : CallP Try.prog 31 [.list 3 (p.map ratL), .list 3 (q.map ratL)] (.tup [.list 3 (([] : List Rat).map ratL), iL 2]) := by
  refine callP_of fol Try.func31 rfl (by decide +kernel) (by decide +kernel) (Nat.le_of_ble_eq_true rfl) tm0 ?_
  refine wl_seq (wl_reg (asg (asg ?_)))
  refine st_end nf0 ?_
  refine then_n (wl_seq (wl_reg (mv ?_)))
  refine st_pure rfl ln37 ?_
  refine st_pure rfl (.bin rfl rfl (sub1N (by omega) (by omega))) ?_
  refine mv ?_
  refine st_pure rfl ln37 ?_
  refine st_pure rfl (.bin rfl rfl (sub1N (by omega) (by omega))) ?_
  refine asg (asg ?_)
  refine st_end nf0 ?_
  refine then_n (wl_seq (wl_seq (wl_reg (mv (mv ?_)))))
  refine st_pure rfl (.bin rfl rfl (add64N (by omega))) ?_
  refine st_pure rfl (.bin rfl rfl rfl) ?_
  refine st_end nf0 ?_
  refine then_n ?_
  refine wl_cond rfl (fun h25 => ?_) (fun h25 => ?_)
  · skip
    have h25r := h25
    try simp only [hce, l1, t0, t1, dflt, val_dig] at h25
    refine wl_seq (wl_reg (asg (asg ?_)))
    refine st_end nf0 ?_
    refine then_n (wl_ret (then_r ?_))
    exact ret2 rfl (.nil 3) rfl (.pure rfl)
  · skip
    have h25r := h25
    try simp only [hce, l1, t0, t1, dflt, val_dig] at h25
    omega
theorem nfc_BMul_0 {p : Prop} (h : p := by (try simp only [e1, e2, e3, e4, p1, p2, p3, q1, q2, q3, l1, t0, t1, r1, r2, r3, r4, Nat.zero_add, Nat.reduceMul, Nat.reduceAdd, b1, b2, b3, b4, b5, b6, i1, i2, i3, i4, i5, i6, Nat.reduceBEq, dfq, List.length_set, rowM_len, allM_len, chR_len, eij, elz, ela, kills_map ratE, ratL_kill, LV.kill, kills]); exact rfl) : p := h
theorem mlc_BMul_1 {p : Prop} (h : p := by first | rfl | (simp only [e1, e2, e3, e4, p1, p2, p3, q1, q2, q3, l1, t0, t1, r1, r2, r3, r4, Nat.zero_add, Nat.reduceMul, Nat.reduceAdd, b1, b2, b3, b4, b5, b6, i1, i2, i3, i4, i5, i6, Nat.reduceBEq, dfq, List.length_set, rowM_len, allM_len, chR_len, eij, elz, ela, kills_map ratE, ratL_kill, LV.kill, kills]; done) | (simp only [e1, e2, e3, e4, p1, p2, p3, q1, q2, q3, l1, t0, t1, r1, r2, r3, r4, Nat.zero_add, Nat.reduceMul, Nat.reduceAdd, b1, b2, b3, b4, b5, b6, i1, i2, i3, i4, i5, i6, Nat.reduceBEq, dfq, List.length_set, rowM_len, allM_len, chR_len, eij, elz, ela, kills_map ratE, ratL_kill, LV.kill, kills]; rfl) | (simp only [e1, e2, e3, e4, p1, p2, p3, q1, q2, q3, l1, t0, t1, r1, r2, r3, r4, Nat.zero_add, Nat.reduceMul, Nat.reduceAdd, b1, b2, b3, b4, b5, b6, i1, i2, i3, i4, i5, i6, Nat.reduceBEq, dfq, List.length_set, rowM_len, allM_len, chR_len, eij, elz, ela, kills_map ratE, ratL_kill, LV.kill, kills]; congr 2 <;> omega)) : p := h
theorem clc_BMul_2 {p : Prop} (h : p := by first | rfl | (simp only [e1, e2, e3, e4, p1, p2, p3, q1, q2, q3, l1, t0, t1, r1, r2, r3, r4, Nat.zero_add, Nat.reduceMul, Nat.reduceAdd, b1, b2, b3, b4, b5, b6, i1, i2, i3, i4, i5, i6, Nat.reduceBEq, dfq, List.length_set, rowM_len, allM_len, chR_len, eij, elz, ela, kills_map ratE, ratL_kill, LV.kill, kills]; done) | (simp only [e1, e2, e3, e4, p1, p2, p3, q1, q2, q3, l1, t0, t1, r1, r2, r3, r4, Nat.zero_add, Nat.reduceMul, Nat.reduceAdd, b1, b2, b3, b4, b5, b6, i1, i2, i3, i4, i5, i6, Nat.reduceBEq, dfq, List.length_set, rowM_len, allM_len, chR_len, eij, elz, ela, kills_map ratE, ratL_kill, LV.kill, kills]; rfl) | (simp only [e1, e2, e3, e4, p1, p2, p3, q1, q2, q3, l1, t0, t1, r1, r2, r3, r4, Nat.zero_add, Nat.reduceMul, Nat.reduceAdd, b1, b2, b3, b4, b5, b6, i1, i2, i3, i4, i5, i6, Nat.reduceBEq, dfq, List.length_set, rowM_len, allM_len, chR_len, eij, elz, ela, kills_map ratE, ratL_kill, LV.kill, kills]; congr 3 <;> omega) | (simp only [e1, e2, e3, e4, p1, p2, p3, q1, q2, q3, l1, t0, t1, r1, r2, r3, r4, Nat.zero_add, Nat.reduceMul, Nat.reduceAdd, b1, b2, b3, b4, b5, b6, i1, i2, i3, i4, i5, i6, Nat.reduceBEq, dfq, List.length_set, rowM_len, allM_len, chR_len, eij, elz, ela, kills_map ratE, ratL_kill, LV.kill, kills]; congr 2 <;> omega)) : p := h
namespace H_c_BMul
theorem om {p : Prop} (h : p := by first | (simp only [e1, e2, e3, e4, p1, p2, p3, q1, q2, q3, l1, t0, t1, r1, r2, r3, r4, Nat.zero_add, Nat.reduceMul, Nat.reduceAdd, b1, b2, b3, b4, b5, b6, i1, i2, i3, i4, i5, i6, Nat.reduceBEq, dfq, List.length_set, rowM_len, allM_len, chR_len, eij, elz, ela, kills_map ratE, ratL_kill, LV.kill, kills]; omega) | omega) : p := h
end H_c_BMul
open H_c_BMul in
set_option maxHeartbeats 4000000 in
set_option maxRecDepth 100000 in
theorem c_BMul (p q : List Rat) (R : Nat) (hp0 : 0 < p.length) (hq0 : 0 < q.length) (h : p.length - 1 + (q.length - 1) ≤ 40) (hR1 : 1 ≤ R) (hR : R ≤ 67108864) (hpR : ∀ x ∈ p, rl x ≤ R) (hqR : ∀ x ∈ q, rl x ≤ R) : CallP Try.prog 31 [.list 3 (p.map ratL), .list 3 (q.map ratL)] (.tup [.list 3 ((mulP p q).map ratL), iL 0]) := by
  have hpl : p.length ≤ 41 := by omega
  have hql : q.length ≤ 41 := by omega
  refine callP_of fol Try.func31 rfl (by decide +kernel) (by decide +kernel) (Nat.le_of_ble_eq_true rfl) tm0 ?_
  have eij : True := trivial
  have elz : True := trivial
  have ela : True := trivial
  refine wl_seq (wl_reg (asg (asg ?_)))
  refine st_end nfc_BMul_0 ?_
  refine then_n (wl_seq (wl_reg (mv ?_)))
  refine st_pure rfl ln37 ?_
  refine st_pure rfl (.bin rfl rfl (sub1N (by omega) (by omega))) ?_
  refine mv ?_
  refine st_pure rfl ln37 ?_
  refine st_pure rfl (.bin rfl rfl (sub1N (by omega) (by omega))) ?_
  refine asg (asg ?_)
  refine st_end nfc_BMul_0 ?_
  refine then_n (wl_seq (wl_seq (wl_reg (mv (mv ?_)))))
  refine st_pure rfl (.bin rfl rfl (add64N (by omega))) ?_
  refine st_pure rfl (.bin rfl rfl rfl) ?_
  refine st_end nfc_BMul_0 ?_
  refine then_n ?_
  refine wl_cond rfl (fun h25 => ?_) (fun h25 => ?_)
  · skip
    have h25r := h25
    try simp only [hce, l1, t0, t1, dflt, val_dig] at h25
    omega
  · skip
    have h25r := h25
    try simp only [hce, l1, t0, t1, dflt, val_dig] at h25
    refine wl_skip (then_n (wl_seq (wl_seq (wl_reg (mv ?_)))))
    refine st_pure rfl (.bin rfl rfl rfl) ?_
    refine mv ?_
    refine opsL_split (d := 28) rfl (fun h28 => ?_) (fun h28 => ?_)
    · skip
      have h28r := h28
      try simp only [hce, l1, t0, t1, dflt, val_dig] at h28
      exfalso
      omega
    · skip
      have h28r := h28
      try simp only [hce, l1, t0, t1, dflt, val_dig] at h28
      refine st_pure (guardX (v := false) rfl rfl (h28r) rfl) (.move _) ?_
      refine st_pure (guardX (v := false) rfl rfl (h28r) rfl) (.bin rfl rfl rfl) ?_
      refine st_pure rfl (.pickF rfl (h28r)) ?_
      refine st_end nfc_BMul_0 ?_
      refine then_n ?_
      refine wl_cond rfl (fun h31 => ?_) (fun h31 => ?_)
      · skip
        have h31r := h31
        try simp only [hce, l1, t0, t1, dflt, val_dig] at h31
        omega
      · skip
        have h31r := h31
        try simp only [hce, l1, t0, t1, dflt, val_dig] at h31
        refine wl_skip (then_n (wl_seq (wl_reg (mv ?_))))
        refine st_callP rfl (.cons im0 .nil) (c_choose _ (by omega)) ?_
        refine mv ?_
        refine st_callP rfl (.cons im0 .nil) (c_choose _ (by omega)) ?_
        refine mv (mv ?_)
        refine st_pure rfl (.bin rfl rfl (add64N (by omega))) ?_
        refine st_callP rfl (.cons im0 .nil) (c_choose _ (by omega)) ?_
        refine asg (asg (asg ?_))
        refine st_end nfc_BMul_0 ?_
        refine then_n (wl_seq (wl_reg (mv (mv ?_))))
        refine st_pure rfl (.bin rfl rfl (add64N (by omega))) ?_
        refine st_pure rfl (.bin rfl rfl (add1N (by omega))) ?_
        refine st_alloc rfl rfl (.makeM (n := (p.length - 1 + (q.length - 1) + 1)) (m := (p.length - 1 + (q.length - 1) + 1)) ratE Try.underlying37 Z34 T34 B34 mlc_BMul_1 mlc_BMul_1 om om om) ?_
        refine asg ?_
        refine st_end nfc_BMul_0 ?_
        refine then_n (wl_seq (wl_seq (wl_reg (mv ?_))))
        refine st_pure rfl ln37 ?_
        refine mv ?_
        refine st_end nfc_BMul_0 ?_
        refine then_n (wl_block ?_)
        refine wl_loop (α := Nat) (fun st L => ((((((((((St.mk L.slot (hp [(44, ⟨3, (allM p q st).map ratL, true⟩)])).put (some 0) (.list 3 (p.map ratL))).put (some 1) (.list 3 (q.map ratL))).put (some 8) (.list 3 ((chR (p.length - 1)).map ratL))).put (some 9) (.list 3 ((chR (q.length - 1)).map ratL))).put (some 10) (.list 3 ((chR (p.length - 1 + (q.length - 1))).map ratL))).put (some 11) (.ref 44 3 0 (p.length - 1 + (q.length - 1) + 1))).put (some 45) (.list 3 (p.map ratL))).put (some 46) (nI64 p.length)).put (some 47) (nI64 st))) (fun st => st ≤ p.length) (fun st => p.length - st) 0 (show (0) ≤ p.length from Nat.zero_le _) ⟨_, Weak.of_eq (put_id' (put_id' (put_id' (put_id' (put_id' (put_id' (put_id' (put_id' (put_id' (mk_id' clc_BMul_2) clc_BMul_2) clc_BMul_2) clc_BMul_2) clc_BMul_2) clc_BMul_2) clc_BMul_2) clc_BMul_2) clc_BMul_2) clc_BMul_2)⟩ ?_
        rintro i L1 hLC
        have hi : i ≤ p.length := hLC
        clear hLC
        show wpL _ _ _ ((((((((((St.mk L1.slot (hp [(44, ⟨3, (allM p q i).map ratL, true⟩)])).put (some 0) (.list 3 (p.map ratL))).put (some 1) (.list 3 (q.map ratL))).put (some 8) (.list 3 ((chR (p.length - 1)).map ratL))).put (some 9) (.list 3 ((chR (q.length - 1)).map ratL))).put (some 10) (.list 3 ((chR (p.length - 1 + (q.length - 1))).map ratL))).put (some 11) (.ref 44 3 0 (p.length - 1 + (q.length - 1) + 1))).put (some 45) (.list 3 (p.map ratL))).put (some 46) (nI64 p.length)).put (some 47) (nI64 i))
        refine wl_seq (wl_reg ?_)
        refine st_pure rfl (.bin rfl rfl rfl) ?_
        refine st_end nfc_BMul_0 ?_
        refine then_n (wl_seq ?_)
        refine wl_cond rfl (fun h48 => ?_) (fun h48 => ?_)
        · skip
          have h48r := h48
          try simp only [hce, l1, t0, t1, dflt, val_dig] at h48
          have hip : i < p.length := by omega
          have hx1 := chR_rl (n := p.length - 1) (by omega) _ (getD_mem (i := i) (by rw [chR_len]; omega))
          have hx2 := hpR _ (getD_mem (i := i) hip)
          have hx3 := rl_mul ((chR (p.length - 1)).getD i 0) (p.getD i 0)
          refine wl_skip (then_n (wl_seq (wl_block (wl_seq (wl_reg (mv (asg ?_)))))))
          refine st_end nfc_BMul_0 ?_
          refine then_n (wl_seq ?_)
          refine wl_regD 10 (by decide +kernel) ?_
          refine mv (mv ?_)
          refine st_pure rfl ix25 ?_
          refine st_pure rfl ld34 ?_
          refine mv (mv ?_)
          refine st_pure rfl ix37 ?_
          refine st_pure rfl ld34 ?_
          try simp only [t1, dfq]
          refine st_callP rfl (.cons im0 (.cons im0 .nil)) (c_RMul _ _ (by omega)) ?_
          refine st_alloc rfl rfl (.alloc Z34a) ?_
          refine st_store rfl sr34 ?_
          refine st_end nfc_BMul_0 ?_
          refine then_n (wl_seq (wl_reg (mv ?_)))
          refine st_pure rfl ln37 ?_
          refine mv ?_
          refine st_end nfc_BMul_0 ?_
          refine then_n (wl_block ?_)
          refine wl_loop (α := Nat) (fun st L => (((((((((((((((St.mk L.slot (hp [(44, ⟨3, (rowM ((chR (p.length - 1)).getD i 0 * p.getD i 0) i (chR (q.length - 1)) q (allM p q i) st).map ratL, true⟩), (13, ⟨3, [ratL ((chR (p.length - 1)).getD i 0 * p.getD i 0)], true⟩)])).put (some 0) (.list 3 (p.map ratL))).put (some 1) (.list 3 (q.map ratL))).put (some 8) (.list 3 ((chR (p.length - 1)).map ratL))).put (some 9) (.list 3 ((chR (q.length - 1)).map ratL))).put (some 10) (.list 3 ((chR (p.length - 1 + (q.length - 1))).map ratL))).put (some 11) (.ref 44 3 0 (p.length - 1 + (q.length - 1) + 1))).put (some 45) (.list 3 (p.map ratL))).put (some 46) (nI64 p.length)).put (some 47) (nI64 i)).put (some 12) (nI64 i)).put (some 13) (.eptr 13 3 0 0)).put (some 59) (.list 3 (q.map ratL))).put (some 60) (nI64 q.length)).put (some 61) (nI64 st))) (fun st => st ≤ q.length) (fun st => q.length - st) 0 (show (0) ≤ q.length from Nat.zero_le _) ⟨_, Weak.of_eq (put_id' (put_id' (put_id' (put_id' (put_id' (put_id' (put_id' (put_id' (put_id' (put_id' (put_id' (put_id' (put_id' (put_id' (mk_id' clc_BMul_2) clc_BMul_2) clc_BMul_2) clc_BMul_2) clc_BMul_2) clc_BMul_2) clc_BMul_2) clc_BMul_2) clc_BMul_2) clc_BMul_2) clc_BMul_2) clc_BMul_2) clc_BMul_2) clc_BMul_2) clc_BMul_2)⟩ ?_
          rintro j L2 hLC
          have hj : j ≤ q.length := hLC
          clear hLC
          show wpL _ _ _ (((((((((((((((St.mk L2.slot (hp [(44, ⟨3, (rowM ((chR (p.length - 1)).getD i 0 * p.getD i 0) i (chR (q.length - 1)) q (allM p q i) j).map ratL, true⟩), (13, ⟨3, [ratL ((chR (p.length - 1)).getD i 0 * p.getD i 0)], true⟩)])).put (some 0) (.list 3 (p.map ratL))).put (some 1) (.list 3 (q.map ratL))).put (some 8) (.list 3 ((chR (p.length - 1)).map ratL))).put (some 9) (.list 3 ((chR (q.length - 1)).map ratL))).put (some 10) (.list 3 ((chR (p.length - 1 + (q.length - 1))).map ratL))).put (some 11) (.ref 44 3 0 (p.length - 1 + (q.length - 1) + 1))).put (some 45) (.list 3 (p.map ratL))).put (some 46) (nI64 p.length)).put (some 47) (nI64 i)).put (some 12) (nI64 i)).put (some 13) (.eptr 13 3 0 0)).put (some 59) (.list 3 (q.map ratL))).put (some 60) (nI64 q.length)).put (some 61) (nI64 j))
          refine wl_seq (wl_reg ?_)
          refine st_pure rfl (.bin rfl rfl rfl) ?_
          refine st_end nfc_BMul_0 ?_
          refine then_n (wl_seq ?_)
          refine wl_cond rfl (fun h62 => ?_) (fun h62 => ?_)
          · skip
            have h62r := h62
            try simp only [hce, l1, t0, t1, dflt, val_dig] at h62
            have hjq : j < q.length := by omega
            have eij : ((i : Int) + (j : Int)).toNat = i + j := by omega
            have hlr : (rowM ((chR (p.length - 1)).getD i 0 * p.getD i 0) i (chR (q.length - 1)) q (allM p q i) j).length = (p.length - 1 + (q.length - 1) + 1) := by rw [rowM_len, allM_len]
            have hS := allM_rl hpl hql hR1 hpR hqR i
            have ho := rowM_rl (i := i) (by omega) hS (show rl ((chR (p.length - 1)).getD i 0 * p.getD i 0) ≤ R + 2 by omega) (chR_rl (n := q.length - 1) (by omega)) hqR hR1 j
            have hbd := mul_bd (i := i) (j := j) (by omega) hql hj hR
            have hg1 := getD_rl (by omega) ho (i + j)
            have hg2 := chR_rl (n := q.length - 1) (by omega) _ (getD_mem (i := j) (by rw [chR_len]; omega))
            have hg3 := hqR _ (getD_mem (i := j) hjq)
            have hg4 := rl_mul ((chR (q.length - 1)).getD j 0) (q.getD j 0)
            have hg5 := rl_mul ((chR (p.length - 1)).getD i 0 * p.getD i 0) ((chR (q.length - 1)).getD j 0 * q.getD j 0)
            refine wl_skip (then_n (wl_seq (wl_block (wl_seq (wl_reg (mv (asg ?_)))))))
            refine st_end nfc_BMul_0 ?_
            refine then_n ?_
            refine wl_regD 23 (by decide +kernel) ?_
            refine mv (mv (mv ?_))
            refine st_pure rfl (.bin rfl rfl (add64N (by omega))) ?_
            refine mv (mv (mv ?_))
            refine st_pure rfl (.bin rfl rfl (add64N (by omega))) ?_
            refine st_pure rfl ix37 ?_
            refine st_pure rfl ld34 ?_
            refine st_pure rfl ld34 ?_
            refine mv (mv ?_)
            refine st_pure rfl ix25 ?_
            refine st_pure rfl ld34 ?_
            refine mv (mv ?_)
            refine st_pure rfl ix37 ?_
            refine st_pure rfl ld34 ?_
            try simp only [t1, dfq, Nat.zero_add]
            refine st_callP rfl (.cons im0 (.cons im0 .nil)) (c_RMul _ _ (by omega)) ?_
            try simp only [t1, dfq, Nat.zero_add]
            refine st_callP rfl (.cons im0 (.cons im0 .nil)) (c_RMul _ _ (by omega)) ?_
            try simp only [t1, dfq, Nat.zero_add]
            refine st_callP rfl (.cons im0 (.cons im0 .nil)) (c_RAdd _ _ (by omega)) ?_
            refine st_pure rfl ix37 ?_
            refine st_store rfl sr34 ?_
            refine st_end nfc_BMul_0 ?_
            refine blk_n (then_n (wl_reg ?_))
            refine st_pure rfl (.bin rfl rfl (add64 om om)) ?_
            refine mv ?_
            refine st_end nfc_BMul_0 ?_
            refine then_n ?_
            exact ⟨j + 1, _, (show (j + 1) ≤ q.length from by omega), (show q.length - (j + 1) < q.length - j from by omega), Weak.of_eq (put_id' (put_id' (put_id' (put_id' (put_id' (put_id' (put_id' (put_id' (put_id' (put_id' (put_id' (put_id' (put_id' (put_id' (mk_id' clc_BMul_2) clc_BMul_2) clc_BMul_2) clc_BMul_2) clc_BMul_2) clc_BMul_2) clc_BMul_2) clc_BMul_2) clc_BMul_2) clc_BMul_2) clc_BMul_2) clc_BMul_2) clc_BMul_2) clc_BMul_2) clc_BMul_2)⟩
          · skip
            have h62r := h62
            try simp only [hce, l1, t0, t1, dflt, val_dig] at h62
            obtain rfl : j = q.length := by omega
            refine wl_exit ?_
            refine then_e (then_e (blk_e (blk_n (then_n ?_))))
            refine wl_regW (Weak.kill _ 13) ?_
            refine st_pure rfl (.bin rfl rfl (add64 om om)) ?_
            refine mv ?_
            refine st_end nfc_BMul_0 ?_
            refine then_n ?_
            exact ⟨i + 1, _, (show (i + 1) ≤ p.length from by omega), (show p.length - (i + 1) < p.length - i from by omega), Weak.of_eq (put_id' (put_id' (put_id' (put_id' (put_id' (put_id' (put_id' (put_id' (put_id' (mk_id' clc_BMul_2) clc_BMul_2) clc_BMul_2) clc_BMul_2) clc_BMul_2) clc_BMul_2) clc_BMul_2) clc_BMul_2) clc_BMul_2) clc_BMul_2)⟩
        · skip
          have h48r := h48
          try simp only [hce, l1, t0, t1, dflt, val_dig] at h48
          obtain rfl : i = p.length := by omega
          refine wl_exit ?_
          refine then_e (then_e (blk_e (then_n (wl_seq (wl_seq (wl_reg (mv ?_)))))))
          refine st_pure rfl ln37 ?_
          refine mv ?_
          refine st_end nfc_BMul_0 ?_
          refine then_n (wl_block ?_)
          refine wl_loop (α := Nat × List Rat) (fun st L => ((((((St.mk L.slot (hp [(44, ⟨3, st.2.map ratL, true⟩)])).put (some 10) (.list 3 ((chR (p.length - 1 + (q.length - 1))).map ratL))).put (some 11) (.ref 44 3 0 (p.length - 1 + (q.length - 1) + 1))).put (some 89) (.ref 44 3 0 (p.length - 1 + (q.length - 1) + 1))).put (some 90) (nI64 (p.length - 1 + (q.length - 1) + 1))).put (some 91) (nI64 st.1))) (fun st => st.1 ≤ (p.length - 1 + (q.length - 1) + 1) ∧ st.2.length = (p.length - 1 + (q.length - 1) + 1) ∧ st.2.take st.1 = (mulP p q).take st.1 ∧ ∀ x, st.1 ≤ x → st.2.getD x 0 = (allM p q p.length).getD x 0) (fun st => (p.length - 1 + (q.length - 1) + 1) - st.1) (0, allM p q p.length) (show (0) ≤ (p.length - 1 + (q.length - 1) + 1) ∧ (allM p q p.length).length = (p.length - 1 + (q.length - 1) + 1) ∧ (allM p q p.length).take (0) = (mulP p q).take (0) ∧ ∀ x, (0) ≤ x → (allM p q p.length).getD x 0 = (allM p q p.length).getD x 0 from ⟨Nat.zero_le _, allM_len _ _ _, rfl, fun x _ => rfl⟩) ⟨_, Weak.of_eq (put_id' (put_id' (put_id' (put_id' (put_id' (mk_id' clc_BMul_2) clc_BMul_2) clc_BMul_2) clc_BMul_2) clc_BMul_2) clc_BMul_2)⟩ ?_
          rintro ⟨k, w⟩ L3 hLC
          obtain ⟨hk, hwl, hwt, hz⟩ : k ≤ (p.length - 1 + (q.length - 1) + 1) ∧ w.length = (p.length - 1 + (q.length - 1) + 1) ∧ w.take k = (mulP p q).take k ∧ ∀ x, k ≤ x → w.getD x 0 = (allM p q p.length).getD x 0 := hLC
          show wpL _ _ _ ((((((St.mk L3.slot (hp [(44, ⟨3, w.map ratL, true⟩)])).put (some 10) (.list 3 ((chR (p.length - 1 + (q.length - 1))).map ratL))).put (some 11) (.ref 44 3 0 (p.length - 1 + (q.length - 1) + 1))).put (some 89) (.ref 44 3 0 (p.length - 1 + (q.length - 1) + 1))).put (some 90) (nI64 (p.length - 1 + (q.length - 1) + 1))).put (some 91) (nI64 k))
          refine wl_seq (wl_reg ?_)
          refine st_pure rfl (.bin rfl rfl rfl) ?_
          refine st_end nfc_BMul_0 ?_
          refine then_n (wl_seq ?_)
          refine wl_cond rfl (fun h92 => ?_) (fun h92 => ?_)
          · skip
            have h92r := h92
            try simp only [hce, l1, t0, t1, dflt, val_dig] at h92
            have hkm : k < (p.length - 1 + (q.length - 1) + 1) := by omega
            have hS := allM_rl hpl hql hR1 hpR hqR p.length
            have hbd := mul_bd (i := p.length) (j := 0) hpl hql (by omega) hR
            have hg1 := getD_rl (by omega) hS k
            have hg2 := chR_rl (n := p.length - 1 + (q.length - 1)) h _ (getD_mem (i := k) (by rw [chR_len]; omega))
            have hzk := hz k (Nat.le_refl _)
            rw [← hzk] at hg1
            refine wl_skip (then_n (wl_seq (wl_block (wl_seq (wl_reg (mv (asg ?_)))))))
            refine st_end nfc_BMul_0 ?_
            refine then_n ?_
            refine wl_regD 12 (by decide +kernel) ?_
            refine mv (mv (mv (mv ?_)))
            refine st_pure rfl ix37 ?_
            refine st_pure rfl ld34 ?_
            refine mv (mv ?_)
            refine st_pure rfl ix25 ?_
            refine st_pure rfl ld34 ?_
            try simp only [t1, dfq, Nat.zero_add]
            refine st_callP rfl (.cons im0 (.cons im0 .nil)) (c_quo _ _ (by omega)) ?_
            refine st_pure rfl ix37 ?_
            refine st_store rfl sr34 ?_
            refine st_end nfc_BMul_0 ?_
            refine blk_n (then_n (wl_reg ?_))
            refine st_pure rfl (.bin rfl rfl (add64 om om)) ?_
            refine mv ?_
            refine st_end nfc_BMul_0 ?_
            refine then_n ?_
            exact ⟨(k + 1, w.set k (w.getD k 0 / (chR (p.length - 1 + (q.length - 1))).getD k 0)), _, (show (k + 1) ≤ (p.length - 1 + (q.length - 1) + 1) ∧ (w.set k (w.getD k 0 / (chR (p.length - 1 + (q.length - 1))).getD k 0)).length = (p.length - 1 + (q.length - 1) + 1) ∧ (w.set k (w.getD k 0 / (chR (p.length - 1 + (q.length - 1))).getD k 0)).take (k + 1) = (mulP p q).take (k + 1) ∧ ∀ x, (k + 1) ≤ x → (w.set k (w.getD k 0 / (chR (p.length - 1 + (q.length - 1))).getD k 0)).getD x 0 = (allM p q p.length).getD x 0 from ⟨by omega, by simp [hwl], set_takeR (by rw [mulP_len]; omega) (by rw [mulP_len, hwl]) hwt (by rw [mulP_get (by omega), hz k (Nat.le_refl _)]), fun x hx => by rw [set_getD _ _ _ _ (by omega), if_neg (by omega)]; exact hz x (by omega)⟩), (show (p.length - 1 + (q.length - 1) + 1) - (k + 1) < (p.length - 1 + (q.length - 1) + 1) - k from by omega), Weak.of_eq (put_id' (put_id' (put_id' (put_id' (put_id' (mk_id' clc_BMul_2) clc_BMul_2) clc_BMul_2) clc_BMul_2) clc_BMul_2) clc_BMul_2)⟩
          · skip
            have h92r := h92
            try simp only [hce, l1, t0, t1, dflt, val_dig] at h92
            obtain rfl : k = (p.length - 1 + (q.length - 1) + 1) := by omega
            have hE : w = mulP p q := by
              rw [List.take_of_length_le (by omega), List.take_of_length_le (by rw [mulP_len]; omega)] at hwt
              exact hwt
            refine wl_exit ?_
            refine then_e (then_e (blk_e (then_n (wl_seq (wl_reg (mv (asg (asg ?_))))))))
            refine st_end nfc_BMul_0 ?_
            refine then_n (wl_ret ?_)
            rw [← hE]
            exact ret2f [44] rfl rfl (imm_refm ratE rfl rfl (by omega)) rfl (.pure rfl)
end Go.Proofs.Ythhdcfhaldcheaa
