/- Rational numbers: sums, quotients, least and greatest. -/
import Derived.Test.YthhdcfhaldcheaaN10
set_option linter.unusedVariables false
set_option linter.unusedSimpArgs false
namespace Go.Proofs.Ythhdcfhaldcheaa
open Go.Lg
theorem nfc_RQuo_0 {p : Prop} (h : p := by (try simp only [e1, e2, e3, e4, p1, p2, p3, q1, q2, q3, l1, t0, t1, r1, r2, r3, r4, Nat.zero_add, Nat.reduceMul, Nat.reduceAdd, b1, b2, b3, b4, b5, b6, i1, i2, i3, i4, i5, i6, Nat.reduceBEq, val_dig, ekA, ekB, ekC, ekD]); exact rfl) : p := h
theorem clc_RQuo_1 {p : Prop} (h : p := by first | rfl | (simp only [e1, e2, e3, e4, p1, p2, p3, q1, q2, q3, l1, t0, t1, r1, r2, r3, r4, Nat.zero_add, Nat.reduceMul, Nat.reduceAdd, b1, b2, b3, b4, b5, b6, i1, i2, i3, i4, i5, i6, Nat.reduceBEq, val_dig, ekA, ekB, ekC, ekD]; done) | (simp only [e1, e2, e3, e4, p1, p2, p3, q1, q2, q3, l1, t0, t1, r1, r2, r3, r4, Nat.zero_add, Nat.reduceMul, Nat.reduceAdd, b1, b2, b3, b4, b5, b6, i1, i2, i3, i4, i5, i6, Nat.reduceBEq, val_dig, ekA, ekB, ekC, ekD]; rfl) | (simp only [e1, e2, e3, e4, p1, p2, p3, q1, q2, q3, l1, t0, t1, r1, r2, r3, r4, Nat.zero_add, Nat.reduceMul, Nat.reduceAdd, b1, b2, b3, b4, b5, b6, i1, i2, i3, i4, i5, i6, Nat.reduceBEq, val_dig, ekA, ekB, ekC, ekD]; congr 3 <;> omega) | (simp only [e1, e2, e3, e4, p1, p2, p3, q1, q2, q3, l1, t0, t1, r1, r2, r3, r4, Nat.zero_add, Nat.reduceMul, Nat.reduceAdd, b1, b2, b3, b4, b5, b6, i1, i2, i3, i4, i5, i6, Nat.reduceBEq, val_dig, ekA, ekB, ekC, ekD]; congr 2 <;> omega)) : p := h
namespace H_c_RQuo
theorem om {p : Prop} (h : p := by first | (simp only [e1, e2, e3, e4, p1, p2, p3, q1, q2, q3, l1, t0, t1, r1, r2, r3, r4, Nat.zero_add, Nat.reduceMul, Nat.reduceAdd, b1, b2, b3, b4, b5, b6, i1, i2, i3, i4, i5, i6, Nat.reduceBEq, val_dig, ekA, ekB, ekC, ekD]; omega) | omega) : p := h
end H_c_RQuo
open H_c_RQuo in
set_option maxHeartbeats 2000000 in
set_option maxRecDepth 100000 in
theorem c_RQuo (a b : Rat) (h : rl a + rl b ≤ 1099511627776) : CallP Try.prog 81 [ratL a, ratL b] (.tup [ratL (a / b), iL (if b = 0 then 3 else 0)]) := by
  have a1 := rl_num a
  have a2 := rl_den a
  have a3 := rl_denN a
  have c1 := rl_num b
  have c2 := rl_den b
  have c3 := rl_denN b
  have a0 := a.den_pos
  have c0 := b.den_pos
  have m1 := len_mul a1 c2
  have m2 := len_mul c1 a2
  have m3 := len_mul a2 c2
  have m4 := len_mul a1 c1
  have m5 := len_mul a2 c1
  have m6 := len_mul c2 a2
  have hE := qv_div (decide (a < 0)) (decide (b < 0)) a.num.natAbs a.den b.num.natAbs b.den
  rw [qv_self, qv_self] at hE
  refine callP_of fol Try.func81 rfl (by decide +kernel) (by decide +kernel) (Nat.le_of_ble_eq_true rfl) tm0 ?_
  have ekA : True := trivial
  have ekB : True := trivial
  have ekC : True := trivial
  have ekD : True := trivial
  refine wl_seq (wl_reg ?_)
  refine st_alloc rfl rfl (.boxE ratE rfl) ?_
  refine st_alloc rfl rfl (.boxE ratE rfl) ?_
  refine st_alloc rfl rfl (.alloc Z34a) ?_
  refine asg ?_
  refine st_end nfc_RQuo_0 ?_
  refine then_n (wl_seq (wl_seq (wl_reg ?_)))
  refine st_pure rfl ld34 ?_
  refine st_callP rfl (.cons im0 .nil) (c_RSign _ (by omega)) ?_
  refine st_pure rfl (.bin rfl rfl rfl) ?_
  refine st_end nfc_RQuo_0 ?_
  refine then_n ?_
  refine wl_cond rfl (fun h14 => ?_) (fun h14 => ?_)
  · skip
    have h14r := h14
    try simp only [hce, l1, t0, t1, dflt, val_dig] at h14
    have hz : b = 0 := by
      unfold sgnR at h14; split at h14
      · assumption
      · split at h14 <;> omega
    refine wl_seq (wl_reg ?_)
    refine st_pure rfl (.build (zs := [.v (.bool false), .list 1 [], .list 1 []]) SL34 Z34a (by intro p hp; cases hp)) ?_
    refine st_store rfl sr34 ?_
    refine asg ?_
    refine st_end nfc_RQuo_0 ?_
    refine then_n (wl_ret (then_r ?_))
    subst hz
    rw [show a / 0 = 0 by rw [Rat.div_def]; simp, ratL_zero]
    exact retCT [] rfl rfl rfl rfl rfl T34 (.pure rfl) rfl (.pure rfl)
  · skip
    have h14r := h14
    try simp only [hce, l1, t0, t1, dflt, val_dig] at h14
    have hz : b ≠ 0 := by rintro rfl; exact h14 rfl
    have hbn : 0 < b.num.natAbs := Nat.pos_of_ne_zero (fun h => hz (Rat.num_eq_zero.1 (by omega)))
    refine wl_skip (then_n (wl_seq (wl_seq (wl_reg ?_))))
    refine st_pure rfl ld34 ?_
    refine st_callP rfl (.cons im0 .nil) (c_parts _) ?_
    refine mv ?_
    refine st_pure rfl (.extract rfl rfl nt0) ?_
    refine st_pure rfl (.extract rfl rfl nt0) ?_
    refine st_pure rfl (.extract rfl rfl nt0) ?_
    refine asg (asg (asg ?_))
    refine st_end nfc_RQuo_0 ?_
    refine then_n (wl_seq (wl_reg (mv ?_)))
    refine st_end nfc_RQuo_0 ?_
    refine then_n ?_
    refine wl_cut (fun L => ∃  (L1 : St), (True) ∧ L = (((((St.mk L1.slot (hp [(2, ⟨3, [ratL a], true⟩), (3, ⟨3, [ratL b], true⟩), (4, ⟨3, [.agg [.v (.bool false), .list 1 [], .list 1 []]], true⟩)])).put (some 2) (.eptr 2 3 0 0)).put (some 3) (.eptr 3 3 0 0)).put (some 4) (.eptr 4 3 0 0)).put (some 5) (iL 0))) ?_ ?_
    · skip
      refine wl_cond rfl (fun h22 => ?_) (fun h22 => ?_)
      · skip
        have h22r := h22
        try simp only [hce, l1, t0, t1, dflt, val_dig] at h22
        obtain ⟨ekA, ekB, k3, k4⟩ := smB_t h22r
        refine wl_seq (wl_reg ?_)
        refine st_pure rfl ld34 ?_
        refine st_callP rfl (.cons im0 .nil) (c_parts _) ?_
        refine mv ?_
        refine st_pure rfl (.extract rfl rfl nt0) ?_
        refine st_pure rfl (.extract rfl rfl nt0) ?_
        refine st_pure rfl (.extract rfl rfl nt0) ?_
        refine asg (asg (asg ?_))
        refine st_end nfc_RQuo_0 ?_
        refine then_n (wl_seq (wl_reg (mv ?_)))
        refine st_end nfc_RQuo_0 ?_
        refine then_n ?_
        refine wl_cond rfl (fun h29 => ?_) (fun h29 => ?_)
        · skip
          have h29r := h29
          try simp only [hce, l1, t0, t1, dflt, val_dig] at h29
          obtain ⟨ekC, ekD, k7, k8⟩ := smB_t h29r
          have n1 := mulLt k3 k8
          have n2 := mulLt k4 k7
          have np := Nat.mul_pos a0 hbn
          refine wl_seq (wl_reg ?_)
          refine st_pure rfl fa34 ?_
          refine st_pure rfl ld4 ?_
          refine st_pure rfl fa34 ?_
          refine st_pure rfl ld4 ?_
          refine st_pure rfl (.bne rfl rfl Try.underlying4) ?_
          refine mv (mv ?_)
          refine st_pure rfl (.bin rfl rfl (mulU (by first | omega | (simp only [ekA, ekB, ekC, ekD]; omega)))) ?_
          refine mv (mv ?_)
          refine st_pure rfl (.bin rfl rfl (mulU (by first | omega | (simp only [ekA, ekB, ekC, ekD]; omega)))) ?_
          refine st_callP rfl (.cons im0 (.cons im0 (.cons im0 .nil))) (c_short _ _ _ (by first | omega | (simp only [ekA, ekB, ekC, ekD]; omega)) (by first | exact np | (simp only [ekA, ekB, ekC, ekD]; exact np)) (by first | omega | (simp only [ekA, ekB, ekC, ekD]; omega))) ?_
          refine st_store rfl sr34 ?_
          refine asg ?_
          refine st_end nfc_RQuo_0 ?_
          refine then_n (wl_ret (then_r (then_r ?_)))
          rw [hE, if_neg hz]
          exact retCT [] rfl rfl rfl (ratE.csize _) (ratL_all _) T34 (.pure (ratE.pure _)) rfl (.pure rfl)
        · skip
          have h29r := h29
          try simp only [hce, l1, t0, t1, dflt, val_dig] at h29
          refine wl_skip (then_n ?_)
          exact ⟨_, trivial, ((put_id' (put_id' (put_id' (put_id' (mk_id' clc_RQuo_1) clc_RQuo_1) clc_RQuo_1) clc_RQuo_1) clc_RQuo_1)).symm⟩
      · skip
        have h22r := h22
        try simp only [hce, l1, t0, t1, dflt, val_dig] at h22
        refine wl_skip (then_n ?_)
        exact ⟨_, trivial, ((put_id' (put_id' (put_id' (put_id' (mk_id' clc_RQuo_1) clc_RQuo_1) clc_RQuo_1) clc_RQuo_1) clc_RQuo_1)).symm⟩
    · skip
      rintro _ ⟨LC22, -, rfl⟩
      refine then_n (wl_seq ?_)
      refine wl_regD 16 (by decide +kernel) ?_
      refine st_pure rfl fa34 ?_
      refine st_pure rfl ld4 ?_
      refine st_pure rfl fa34 ?_
      refine st_pure rfl ld4 ?_
      refine st_pure rfl (.bne rfl rfl Try.underlying4) ?_
      refine st_pure rfl fa34 ?_
      refine st_pure rfl ld32 ?_
      refine st_pure rfl ld34 ?_
      refine st_callP rfl (.cons im0 .nil) (c_den _) ?_
      refine st_callP rfl (.cons im0 (.cons im0 .nil)) (c_NMul _ _ (lim_dig _) (lim_dig _) (by omega) (by omega)) ?_
      refine st_pure rfl ld34 ?_
      refine st_callP rfl (.cons im0 .nil) (c_den _) ?_
      refine st_pure rfl fa34 ?_
      refine st_pure rfl ld32 ?_
      refine st_callP rfl (.cons im0 (.cons im0 .nil)) (c_NMul _ _ (lim_dig _) (lim_dig _) (by omega) (by omega)) ?_
      refine st_callP rfl (.cons im0 (.cons im0 (.cons im0 .nil))) (c_reduce _ _ _ (lim_dig _) (lim_dig _) (by first | omega | (simp only [val_dig]; omega)) (by first | omega | (simp only [val_dig]; omega))) ?_
      refine st_store rfl sr34 ?_
      refine asg ?_
      refine st_end nfc_RQuo_0 ?_
      refine then_n (wl_ret ?_)
      rw [hE, if_neg hz]
      exact retCT [] rfl rfl rfl (ratE.csize _) (ratL_all _) T34 (.pure (ratE.pure _)) rfl (.pure rfl)
theorem beq_ne_of {p s : Bool} (h : (p == s) = false) : p ≠ s := by simpa using h
theorem bne_ne_of {p s : Bool} (h : (!(p == s)) = true) : p ≠ s := by simpa using h
theorem nfc_radd_0 {p : Prop} (h : p := by (try simp only [e1, e2, e3, e4, p1, p2, p3, q1, q2, q3, l1, t0, t1, r1, r2, r3, r4, Nat.zero_add, Nat.reduceMul, Nat.reduceAdd, b1, b2, b3, b4, b5, b6, i1, i2, i3, i4, i5, i6, Nat.reduceBEq, val_dig, Nat.one_mul, Nat.mul_one, eS, eK, eSb, eSc, ekA, ekB, ekC, ekD]); exact rfl) : p := h
theorem clc_radd_1 {p : Prop} (h : p := by first | rfl | (simp only [e1, e2, e3, e4, p1, p2, p3, q1, q2, q3, l1, t0, t1, r1, r2, r3, r4, Nat.zero_add, Nat.reduceMul, Nat.reduceAdd, b1, b2, b3, b4, b5, b6, i1, i2, i3, i4, i5, i6, Nat.reduceBEq, val_dig, Nat.one_mul, Nat.mul_one, eS, eK, eSb, eSc, ekA, ekB, ekC, ekD]; done) | (simp only [e1, e2, e3, e4, p1, p2, p3, q1, q2, q3, l1, t0, t1, r1, r2, r3, r4, Nat.zero_add, Nat.reduceMul, Nat.reduceAdd, b1, b2, b3, b4, b5, b6, i1, i2, i3, i4, i5, i6, Nat.reduceBEq, val_dig, Nat.one_mul, Nat.mul_one, eS, eK, eSb, eSc, ekA, ekB, ekC, ekD]; rfl) | (simp only [e1, e2, e3, e4, p1, p2, p3, q1, q2, q3, l1, t0, t1, r1, r2, r3, r4, Nat.zero_add, Nat.reduceMul, Nat.reduceAdd, b1, b2, b3, b4, b5, b6, i1, i2, i3, i4, i5, i6, Nat.reduceBEq, val_dig, Nat.one_mul, Nat.mul_one, eS, eK, eSb, eSc, ekA, ekB, ekC, ekD]; congr 3 <;> omega) | (simp only [e1, e2, e3, e4, p1, p2, p3, q1, q2, q3, l1, t0, t1, r1, r2, r3, r4, Nat.zero_add, Nat.reduceMul, Nat.reduceAdd, b1, b2, b3, b4, b5, b6, i1, i2, i3, i4, i5, i6, Nat.reduceBEq, val_dig, Nat.one_mul, Nat.mul_one, eS, eK, eSb, eSc, ekA, ekB, ekC, ekD]; congr 2 <;> omega)) : p := h
namespace H_c_radd
theorem om {p : Prop} (h : p := by first | (simp only [e1, e2, e3, e4, p1, p2, p3, q1, q2, q3, l1, t0, t1, r1, r2, r3, r4, Nat.zero_add, Nat.reduceMul, Nat.reduceAdd, b1, b2, b3, b4, b5, b6, i1, i2, i3, i4, i5, i6, Nat.reduceBEq, val_dig, Nat.one_mul, Nat.mul_one, eS, eK, eSb, eSc, ekA, ekB, ekC, ekD]; omega) | omega) : p := h
end H_c_radd
open H_c_radd in
set_option maxHeartbeats 4000000 in
set_option maxRecDepth 100000 in
theorem c_radd (a b : Rat) (s : Bool) (h : rl a + rl b ≤ 549755813888) : CallP Try.prog 102 [ratL a, ratL b, bL s] (ratL (a + sgR s b)) := by
  have a1 := rl_num a
  have a2 := rl_den a
  have a3 := rl_denN a
  have c1 := rl_num b
  have c2 := rl_den b
  have c3 := rl_denN b
  have a0 := a.den_pos
  have c0 := b.den_pos
  have m1 := len_mul a1 c2
  have m2 := len_mul c1 a2
  have m3 := len_mul a2 c2
  have m4 := len_mul a1 c1
  have m5 := len_mul a2 c1
  have m6 := len_mul c2 a2
  have mm := len_add (k := rl a + rl b) m1 (by omega)
  refine callP_of fol Try.func102 rfl (by decide +kernel) (by decide +kernel) (Nat.le_of_ble_eq_true rfl) tm0 ?_
  have eS : True := trivial
  have eK : True := trivial
  have eSb : True := trivial
  have eSc : True := trivial
  have ekA : True := trivial
  have ekB : True := trivial
  have ekC : True := trivial
  have ekD : True := trivial
  refine wl_seq (wl_reg ?_)
  refine st_alloc rfl rfl (.boxE ratE rfl) ?_
  refine st_alloc rfl rfl (.boxE ratE rfl) ?_
  refine st_alloc rfl rfl (.alloc Z34a) ?_
  refine st_end nfc_radd_0 ?_
  refine then_n (wl_seq (wl_seq (wl_reg ?_)))
  refine st_pure rfl ld34 ?_
  refine st_callP rfl (.cons im0 .nil) (c_parts _) ?_
  refine mv ?_
  refine st_pure rfl (.extract rfl rfl nt0) ?_
  refine st_pure rfl (.extract rfl rfl nt0) ?_
  refine st_pure rfl (.extract rfl rfl nt0) ?_
  refine asg (asg (asg ?_))
  refine st_end nfc_radd_0 ?_
  refine then_n (wl_seq (wl_reg (mv ?_)))
  refine st_end nfc_radd_0 ?_
  refine then_n ?_
  refine wl_cut (fun L => ∃  (L1 : St), (True) ∧ L = (((((St.mk L1.slot (hp [(3, ⟨3, [ratL a], true⟩), (4, ⟨3, [ratL b], true⟩), (6, ⟨3, [.agg [.v (.bool false), .list 1 [], .list 1 []]], true⟩)])).put (some 2) (bL s)).put (some 3) (.eptr 3 3 0 0)).put (some 4) (.eptr 4 3 0 0)).put (some 6) (.eptr 6 3 0 0))) ?_ ?_
  · skip
    refine wl_cond rfl (fun h28 => ?_) (fun h28 => ?_)
    · skip
      have h28r := h28
      try simp only [hce, l1, t0, t1, dflt, val_dig] at h28
      obtain ⟨ekA, ekB, k3, k4⟩ := smB_t h28r
      refine wl_seq (wl_reg ?_)
      refine st_pure rfl ld34 ?_
      refine st_callP rfl (.cons im0 .nil) (c_parts _) ?_
      refine mv ?_
      refine st_pure rfl (.extract rfl rfl nt0) ?_
      refine st_pure rfl (.extract rfl rfl nt0) ?_
      refine st_pure rfl (.extract rfl rfl nt0) ?_
      refine asg (asg (asg ?_))
      refine st_end nfc_radd_0 ?_
      refine then_n (wl_seq (wl_reg (mv ?_)))
      refine st_end nfc_radd_0 ?_
      refine then_n ?_
      refine wl_cond rfl (fun h35 => ?_) (fun h35 => ?_)
      · skip
        have h35r := h35
        try simp only [hce, l1, t0, t1, dflt, val_dig] at h35
        obtain ⟨ekC, ekD, k7, k8⟩ := smB_t h35r
        have n1 := mulLt k3 k8
        have n2 := mulLt k7 k4
        have n3 := mulLt k4 k8
        have np := Nat.mul_pos a0 c0
        refine wl_seq (wl_reg (mv (mv ?_)))
        refine st_pure rfl (.bin rfl rfl (mulU (by first | omega | (simp only [ekA, ekB, ekC, ekD]; omega)))) ?_
        refine mv (mv ?_)
        refine st_pure rfl (.bin rfl rfl (mulU (by first | omega | (simp only [ekA, ekB, ekC, ekD]; omega)))) ?_
        refine asg (asg ?_)
        refine st_end nfc_radd_0 ?_
        refine then_n (wl_seq ?_)
        have eS : (((a.num.natAbs * b.den : Nat) : Int) + ((b.num.natAbs * a.den : Nat) : Int) + 0) % 18446744073709551616 = (((a.num.natAbs * b.den + b.num.natAbs * a.den) % 18446744073709551616 : Nat) : Int) := by omega
        have eK : (((a.num.natAbs * b.den : Nat) : Int) + ((b.num.natAbs * a.den : Nat) : Int) + 0) / 18446744073709551616 = (((a.num.natAbs * b.den + b.num.natAbs * a.den) / 18446744073709551616 : Nat) : Int) := by omega
        refine wl_reg (mv (mv ?_))
        refine st_pure rfl (.ext2 Try.func131 rfl rfl rfl rfl (vs := [.int .u64 ((a.num.natAbs * b.den : Nat) : Int), .int .u64 ((b.num.natAbs * a.den : Nat) : Int), .int .u64 0]) rfl (fun w => run_add64 _ _ _ (by omega) (by omega) (by omega) (by omega) w) rfl rfl) ?_
        refine mv ?_
        refine st_pure rfl (.extract rfl rfl nt0) ?_
        refine st_pure rfl (.extract rfl rfl nt0) ?_
        refine asg (asg ?_)
        refine st_end nfc_radd_0 ?_
        refine then_n (wl_block (wl_seq (wl_reg ?_)))
        refine st_pure rfl fa34 ?_
        refine st_pure rfl ld4 ?_
        refine mv ?_
        refine st_pure rfl (.beq rfl rfl Try.underlying4) ?_
        refine mv ?_
        refine opsL_split (d := 53) rfl (fun h53 => ?_) (fun h53 => ?_)
        · skip
          have h53r := h53
          try simp only [hce, l1, t0, t1, dflt, val_dig] at h53
          refine st_pure (guardX (v := true) rfl rfl (h53r) rfl) (.move _) ?_
          refine st_pure (guardX (v := true) rfl rfl (h53r) rfl) (.bin rfl rfl rfl) ?_
          refine st_pure rfl (.pickT rfl (h53r)) ?_
          refine asg ?_
          refine st_end nfc_radd_0 ?_
          refine then_n ?_
          refine wl_cond rfl (fun h48 => ?_) (fun h48 => ?_)
          · skip
            have h48r := h48
            try simp only [hce, l1, t0, t1, dflt, val_dig] at h48
            refine wl_seq (wl_reg (mv (mv (mv (mv ?_)))))
            refine st_pure rfl (.bin rfl rfl (mulU om)) ?_
            refine st_callP rfl (.cons im0 (.cons im0 (.cons im0 .nil))) (c_short s ((a.num.natAbs * b.den + b.num.natAbs * a.den) % 18446744073709551616) (a.den * b.den) (by omega) np (by omega)) ?_
            refine st_store rfl sr34 ?_
            refine st_end nfc_radd_0 ?_
            refine then_n (wl_ret (blk_r (then_r (then_r ?_))))
            have hc0 : a.num.natAbs * b.den + b.num.natAbs * a.den < 18446744073709551616 := by omega
            rw [add_same (k := 1) (x := a.num.natAbs * b.den) (y := b.num.natAbs * a.den) (d := a.den * b.den) (by omega) (Nat.mul_one _) (Nat.mul_one _) (Nat.mul_one _) (eq_of_beq h53r), show qv s (a.num.natAbs * b.den + b.num.natAbs * a.den) (a.den * b.den) = qv s ((a.num.natAbs * b.den + b.num.natAbs * a.den) % 18446744073709551616) (a.den * b.den) by rw [Nat.mod_eq_of_lt hc0]]
            exact retC [] rfl rfl rfl (ratE.csize _) (ratL_all _) T34 (.pure (ratE.pure _))
          · skip
            have h48r := h48
            try simp only [hce, l1, t0, t1, dflt, val_dig] at h48
            refine wl_seq (wl_reg ?_)
            refine st_pure rfl fa34 ?_
            refine st_pure rfl ld4 ?_
            refine mv ?_
            refine st_pure rfl (.bne rfl rfl Try.underlying4) ?_
            refine mv ?_
            refine st_skip (guardX (v := false) rfl rfl ((by rw [h53r]; rfl)) rfl) ?_
            refine st_skip (guardX (v := false) rfl rfl ((by rw [h53r]; rfl)) rfl) ?_
            refine st_skip (guardX (v := false) rfl rfl ((by rw [h53r]; rfl)) rfl) ?_
            refine st_pure rfl (.pickF rfl ((by rw [h53r]; rfl))) ?_
            refine asg ?_
            refine st_end nfc_radd_0 ?_
            refine then_n ?_
            refine wl_condY (b := _) rfl rfl ?_
            refine wl_seq (wl_reg ?_)
            refine st_pure rfl fa34 ?_
            refine st_pure rfl ld4 ?_
            refine mv ?_
            refine st_pure rfl (.bne rfl rfl Try.underlying4) ?_
            refine asg ?_
            refine st_end nfc_radd_0 ?_
            refine then_n ?_
            refine wl_condY (b := _) rfl (by rw [h53r]; rfl) ?_
            refine wl_skip (blk_n (then_n ?_))
            exact ⟨_, trivial, ((put_id' (put_id' (put_id' (put_id' (mk_id' clc_radd_1) clc_radd_1) clc_radd_1) clc_radd_1) clc_radd_1)).symm⟩
        · skip
          have h53r := h53
          try simp only [hce, l1, t0, t1, dflt, val_dig] at h53
          refine st_skip (guardX (v := false) rfl rfl (h53r) rfl) ?_
          refine st_skip (guardX (v := false) rfl rfl (h53r) rfl) ?_
          refine st_pure rfl (.pickF rfl (h53r)) ?_
          refine asg ?_
          refine st_end nfc_radd_0 ?_
          refine then_n ?_
          refine wl_condY (b := _) rfl rfl ?_
          refine wl_seq (wl_reg ?_)
          refine st_pure rfl fa34 ?_
          refine st_pure rfl ld4 ?_
          refine mv ?_
          refine st_pure rfl (.bne rfl rfl Try.underlying4) ?_
          refine mv ?_
          refine st_pure (guardX (v := true) rfl rfl ((by rw [h53r]; rfl)) rfl) (.move _) ?_
          refine st_pure (guardX (v := true) rfl rfl ((by rw [h53r]; rfl)) rfl) (.move _) ?_
          refine st_pure (guardX (v := true) rfl rfl ((by rw [h53r]; rfl)) rfl) (.bin rfl rfl rfl) ?_
          refine st_pure rfl (.pickT rfl ((by rw [h53r]; rfl))) ?_
          refine asg ?_
          refine st_end nfc_radd_0 ?_
          refine then_n ?_
          refine wl_cond rfl (fun h63 => ?_) (fun h63 => ?_)
          · skip
            have h63r := h63
            try simp only [hce, l1, t0, t1, dflt, val_dig] at h63
            refine wl_seq (wl_reg ?_)
            refine st_pure rfl fa34 ?_
            refine st_pure rfl ld4 ?_
            refine mv (mv ?_)
            refine st_pure rfl (.bin rfl rfl (subU om om)) ?_
            refine mv (mv ?_)
            refine st_pure rfl (.bin rfl rfl (mulU om)) ?_
            refine st_callP rfl (.cons im0 (.cons im0 (.cons im0 .nil))) (c_short _ _ _ (by first | omega | (simp only [ekA, ekB, ekC, ekD]; omega)) (by first | exact np | (simp only [ekA, ekB, ekC, ekD]; exact np)) (by first | omega | (simp only [ekA, ekB, ekC, ekD]; omega))) ?_
            refine st_store rfl sr34 ?_
            refine st_end nfc_radd_0 ?_
            refine then_n (wl_ret (blk_r (then_r (then_r ?_))))
            rw [add_ge (k := 1) (x := a.num.natAbs * b.den) (y := b.num.natAbs * a.den) (d := a.den * b.den) (by omega) (Nat.mul_one _) (Nat.mul_one _) (Nat.mul_one _) (beq_ne_of h53r) (by omega)]
            exact retC [] rfl rfl rfl (ratE.csize _) (ratL_all _) T34 (.pure (ratE.pure _))
          · skip
            have h63r := h63
            try simp only [hce, l1, t0, t1, dflt, val_dig] at h63
            refine wl_seq (wl_reg ?_)
            refine st_pure rfl fa34 ?_
            refine st_pure rfl ld4 ?_
            refine mv ?_
            refine st_pure rfl (.bne rfl rfl Try.underlying4) ?_
            refine asg ?_
            refine st_end nfc_radd_0 ?_
            refine then_n ?_
            refine wl_condX (b := _) rfl (by rw [h53r]; rfl) ?_
            refine wl_seq (wl_reg (mv (mv (mv ?_))))
            refine st_pure rfl (.bin rfl rfl (subU om om)) ?_
            refine mv (mv ?_)
            refine st_pure rfl (.bin rfl rfl (mulU om)) ?_
            refine st_callP rfl (.cons im0 (.cons im0 (.cons im0 .nil))) (c_short _ _ _ (by first | omega | (simp only [ekA, ekB, ekC, ekD]; omega)) (by first | exact np | (simp only [ekA, ekB, ekC, ekD]; exact np)) (by first | omega | (simp only [ekA, ekB, ekC, ekD]; omega))) ?_
            refine st_store rfl sr34 ?_
            refine st_end nfc_radd_0 ?_
            refine then_n (wl_ret (blk_r (then_r (then_r ?_))))
            rw [add_le (k := 1) (x := a.num.natAbs * b.den) (y := b.num.natAbs * a.den) (d := a.den * b.den) (by omega) (Nat.mul_one _) (Nat.mul_one _) (Nat.mul_one _) (beq_ne_of h53r) (by omega)]
            exact retC [] rfl rfl rfl (ratE.csize _) (ratL_all _) T34 (.pure (ratE.pure _))
      · skip
        have h35r := h35
        try simp only [hce, l1, t0, t1, dflt, val_dig] at h35
        refine wl_skip (then_n ?_)
        exact ⟨_, trivial, ((put_id' (put_id' (put_id' (put_id' (mk_id' clc_radd_1) clc_radd_1) clc_radd_1) clc_radd_1) clc_radd_1)).symm⟩
    · skip
      have h28r := h28
      try simp only [hce, l1, t0, t1, dflt, val_dig] at h28
      refine wl_skip (then_n ?_)
      exact ⟨_, trivial, ((put_id' (put_id' (put_id' (put_id' (mk_id' clc_radd_1) clc_radd_1) clc_radd_1) clc_radd_1) clc_radd_1)).symm⟩
  · skip
    rintro _ ⟨LC28, -, rfl⟩
    refine then_n (wl_seq ?_)
    refine wl_regD 9 (by decide +kernel) ?_
    refine st_pure rfl fa34 ?_
    refine st_pure rfl ld32 ?_
    refine st_pure rfl fa34 ?_
    refine st_pure rfl ld32 ?_
    refine st_pure rfl ld34 ?_
    refine st_callP rfl (.cons im0 .nil) (c_den _) ?_
    refine asg (asg (asg ?_))
    refine st_end nfc_radd_0 ?_
    refine then_n (wl_seq (wl_seq (wl_reg ?_)))
    refine st_pure rfl fa34 ?_
    refine st_pure rfl ld32 ?_
    refine st_pure rfl fa34 ?_
    refine st_pure rfl ld32 ?_
    refine st_callP rfl (.cons im0 (.cons im0 .nil)) (c_Equal _ _ (by omega) (by omega)) ?_
    refine st_pure rfl (.not rfl) ?_
    refine st_end nfc_radd_0 ?_
    refine then_n ?_
    refine wl_cut (fun L => ∃ (x : Nat) (y : Nat) (d : Nat) (L1 : St), (∃ k, 0 < k ∧ x * k = a.num.natAbs * b.den ∧ y * k = b.num.natAbs * a.den ∧ d * k = a.den * b.den ∧ 0 < d ∧ (dig x).length ≤ rl a + rl b ∧ (dig y).length ≤ rl a + rl b ∧ (dig d).length ≤ rl a + rl b) ∧ L = ((((((((St.mk L1.slot (hp [(3, ⟨3, [ratL a], true⟩), (4, ⟨3, [ratL b], true⟩), (6, ⟨3, [.agg [.v (.bool false), .list 1 [], .list 1 []]], true⟩)])).put (some 2) (bL s)).put (some 3) (.eptr 3 3 0 0)).put (some 4) (.eptr 4 3 0 0)).put (some 6) (.eptr 6 3 0 0)).put (some 15) (magL x)).put (some 16) (magL y)).put (some 17) (magL d))) ?_ ?_
    · skip
      refine wl_cond rfl (fun h106 => ?_) (fun h106 => ?_)
      · skip
        have h106r := h106
        try simp only [hce, l1, t0, t1, dflt, val_dig] at h106
        refine wl_regD 15 (by decide +kernel) ?_
        refine mv ?_
        refine st_pure rfl ld34 ?_
        refine st_callP rfl (.cons im0 .nil) (c_den _) ?_
        refine st_callP rfl (.cons im0 (.cons im0 .nil)) (c_NMul _ _ (lim_dig _) (lim_dig _) (by omega) (by omega)) ?_
        refine mv ?_
        refine st_pure rfl ld34 ?_
        refine st_callP rfl (.cons im0 .nil) (c_den _) ?_
        refine st_callP rfl (.cons im0 (.cons im0 .nil)) (c_NMul _ _ (lim_dig _) (lim_dig _) (by omega) (by omega)) ?_
        refine mv ?_
        refine st_pure rfl ld34 ?_
        refine st_callP rfl (.cons im0 .nil) (c_den _) ?_
        refine st_callP rfl (.cons im0 (.cons im0 .nil)) (c_NMul _ _ (lim_dig _) (lim_dig _) (by omega) (by omega)) ?_
        refine asg (asg (asg ?_))
        refine st_end nfc_radd_0 ?_
        refine then_n ?_
        exact ⟨a.num.natAbs * b.den, b.num.natAbs * a.den, a.den * b.den, _, ⟨1, by omega, Nat.mul_one _, Nat.mul_one _, Nat.mul_one _, Nat.mul_pos a0 c0, m1, by omega, m3⟩, ((put_id' (put_id' (put_id' (put_id' (put_id' (put_id' (put_id' (mk_id' clc_radd_1) clc_radd_1) clc_radd_1) clc_radd_1) clc_radd_1) clc_radd_1) clc_radd_1) clc_radd_1)).symm⟩
      · skip
        have h106r := h106
        try simp only [hce, l1, t0, t1, dflt, val_dig] at h106
        have hde := denN_inj h106
        refine wl_skip (then_n ?_)
        exact ⟨a.num.natAbs, b.num.natAbs, a.den, _, ⟨a.den, a0, by rw [hde], rfl, by rw [hde], a0, by omega, by omega, by omega⟩, ((put_id' (put_id' (put_id' (put_id' (put_id' (put_id' (put_id' (mk_id' clc_radd_1) clc_radd_1) clc_radd_1) clc_radd_1) clc_radd_1) clc_radd_1) clc_radd_1) clc_radd_1)).symm⟩
    · skip
      rintro _ ⟨x, y, d, LC106, ⟨k, hk, hx, hy, hd, hd0, lx, ly, ld⟩, rfl⟩
      have lxy := len_add lx ly
      have lxs : (dig (x - y)).length ≤ rl a + rl b := Nat.le_trans (len_dig_mono (Nat.sub_le _ _)) lx
      have lys : (dig (y - x)).length ≤ rl a + rl b := Nat.le_trans (len_dig_mono (Nat.sub_le _ _)) ly
      refine then_n (wl_seq (wl_seq (wl_reg ?_)))
      refine st_pure rfl fa34 ?_
      refine st_pure rfl ld4 ?_
      refine mv ?_
      refine st_pure rfl (.beq rfl rfl Try.underlying4) ?_
      refine st_end nfc_radd_0 ?_
      refine then_n ?_
      refine wl_cond rfl (fun h122 => ?_) (fun h122 => ?_)
      · skip
        have h122r := h122
        try simp only [hce, l1, t0, t1, dflt, val_dig] at h122
        refine wl_seq (wl_reg (mv (mv (mv ?_))))
        refine st_callP rfl (.cons im0 (.cons im0 .nil)) (c_Add _ _ (lim_dig _) (lim_dig _) (by omega) (by omega)) ?_
        refine mv ?_
        refine st_callP rfl (.cons im0 (.cons im0 (.cons im0 .nil))) (c_reduce _ _ _ (lim_dig _) (lim_dig _) (by first | omega | (simp only [val_dig]; omega)) (by first | omega | (simp only [val_dig]; omega))) ?_
        refine st_store rfl sr34 ?_
        refine st_end nfc_radd_0 ?_
        refine then_n (wl_ret (then_r ?_))
        rw [add_same hk hx hy hd (eq_of_beq h122r)]
        exact retC [] rfl rfl rfl (ratE.csize _) (ratL_all _) T34 (.pure (ratE.pure _))
      · skip
        have h122r := h122
        try simp only [hce, l1, t0, t1, dflt, val_dig] at h122
        refine wl_skip (then_n (wl_seq (wl_seq (wl_reg (mv (mv ?_))))))
        refine st_callP rfl (.cons im0 (.cons im0 .nil)) (c_NSubAny _ _ (by omega) (by omega)) ?_
        refine mv ?_
        refine st_pure rfl (.extract rfl rfl nt0) ?_
        refine st_pure rfl (.extract rfl rfl nt0) ?_
        refine asg (asg ?_)
        refine st_end nfc_radd_0 ?_
        refine then_n (wl_seq (wl_reg (mv ?_)))
        refine st_pure rfl (.bin rfl rfl rfl) ?_
        refine st_end nfc_radd_0 ?_
        refine then_n ?_
        refine wl_cond rfl (fun h136 => ?_) (fun h136 => ?_)
        · skip
          have h136r := h136
          try simp only [hce, l1, t0, t1, dflt, val_dig] at h136
          have hle := subE_0.1 (show subE x y = 0 by omega)
          have eSb := subL_le hle
          refine wl_seq (wl_reg ?_)
          refine st_pure rfl fa34 ?_
          refine st_pure rfl ld4 ?_
          refine mv (mv ?_)
          refine st_callP rfl (.cons im0 (.cons im0 (.cons im0 .nil))) (c_reduce _ _ _ (by rw [eSb]; exact lim_dig _) (lim_dig _) (by rw [eSb]; omega) (by omega)) ?_
          refine st_store rfl sr34 ?_
          refine st_end nfc_radd_0 ?_
          refine then_n (wl_ret (then_r ?_))
          rw [add_ge hk hx hy hd (beq_ne_of h122r) hle]
          exact retC [] rfl rfl rfl (ratE.csize _) (ratL_all _) T34 (.pure (ratE.pure _))
        · skip
          have h136r := h136
          try simp only [hce, l1, t0, t1, dflt, val_dig] at h136
          have hle : x ≤ y := by
            rcases Nat.le_total x y with h | h
            · exact h
            · have := subE_0.2 h; omega
          have eSc := subL_le hle
          refine wl_skip (then_n (wl_seq (wl_reg (mv (mv ?_)))))
          refine st_callP rfl (.cons im0 (.cons im0 .nil)) (c_NSubAny _ _ (by omega) (by omega)) ?_
          refine mv ?_
          refine st_pure rfl (.extract rfl rfl nt0) ?_
          refine st_pure rfl (.extract rfl rfl nt0) ?_
          refine asg (asg ?_)
          refine st_end nfc_radd_0 ?_
          refine then_n (wl_seq (wl_reg (mv (mv (mv ?_)))))
          refine st_callP rfl (.cons im0 (.cons im0 (.cons im0 .nil))) (c_reduce _ _ _ (lim_dig _) (lim_dig _) (by omega) (by omega)) ?_
          refine st_store rfl sr34 ?_
          refine st_end nfc_radd_0 ?_
          refine then_n (wl_ret ?_)
          rw [add_le hk hx hy hd (beq_ne_of h122r) hle]
          exact retC [] rfl rfl rfl (ratE.csize _) (ratL_all _) T34 (.pure (ratE.pure _))
theorem cmpR_neg {a b : Rat} : cmpR b a < 0 ↔ b < a := by unfold cmpR; split <;> (try split) <;> grind
theorem cmpR_pos {a b : Rat} : cmpR b a > 0 ↔ a < b := by unfold cmpR; split <;> (try split) <;> grind
open H0 in
set_option maxHeartbeats 1000000 in
set_option maxRecDepth 100000 in
theorem c_RAdd (a b : Rat) (h : rl a + rl b ≤ 549755813888) : CallP Try.prog 72 [ratL a, ratL b] (ratL (a + b)) := by
  refine callP_of fol Try.func72 rfl (by decide +kernel) (by decide +kernel) (Nat.le_of_ble_eq_true rfl) tm0 ?_
  refine wl_seq (wl_reg ?_)
  refine st_alloc rfl rfl (.boxE ratE rfl) ?_
  refine st_alloc rfl rfl (.boxE ratE rfl) ?_
  refine st_alloc rfl rfl (.alloc Z34a) ?_
  refine st_end nf0 ?_
  refine then_n (wl_seq (wl_reg ?_))
  refine st_pure rfl ld34 ?_
  refine st_pure rfl ld34 ?_
  refine st_pure rfl fa34 ?_
  refine st_pure rfl ld4 ?_
  refine st_callP rfl (.cons im0 (.cons im0 (.cons im0 .nil))) (c_radd _ _ _ (by omega)) ?_
  refine st_store rfl sr34 ?_
  refine st_end nf0 ?_
  refine then_n (wl_ret ?_)
  exact retC [] rfl rfl rfl (ratE.csize _) (ratL_all _) T34 (by rw [sgR_self]; exact .pure (ratE.pure _))
open H0 in
set_option maxHeartbeats 1000000 in
set_option maxRecDepth 100000 in
theorem c_RSub (a b : Rat) (h : rl a + rl b ≤ 549755813888) : CallP Try.prog 63 [ratL a, ratL b] (ratL (a - b)) := by
  refine callP_of fol Try.func63 rfl (by decide +kernel) (by decide +kernel) (Nat.le_of_ble_eq_true rfl) tm0 ?_
  refine wl_seq (wl_reg ?_)
  refine st_alloc rfl rfl (.boxE ratE rfl) ?_
  refine st_alloc rfl rfl (.boxE ratE rfl) ?_
  refine st_alloc rfl rfl (.alloc Z34a) ?_
  refine st_end nf0 ?_
  refine then_n (wl_seq (wl_reg ?_))
  refine st_pure rfl ld34 ?_
  refine st_pure rfl ld34 ?_
  refine st_pure rfl fa34 ?_
  refine st_pure rfl ld4 ?_
  refine st_pure rfl (.not rfl) ?_
  refine st_callP rfl (.cons im0 (.cons im0 (.cons im0 .nil))) (c_radd _ _ _ (by omega)) ?_
  refine st_store rfl sr34 ?_
  refine st_end nf0 ?_
  refine then_n (wl_ret ?_)
  rw [Rat.sub_eq_add_neg]
  exact retC [] rfl rfl rfl (ratE.csize _) (ratL_all _) T34 (by rw [sgR_not]; exact .pure (ratE.pure _))
open H0 in
set_option maxHeartbeats 1000000 in
set_option maxRecDepth 100000 in
theorem c_RMin (a b : Rat) (h : rl a + rl b ≤ 549755813888) : CallP Try.prog 113 [ratL a, ratL b] (ratL (if b < a then b else a)) := by
  refine callP_of fol Try.func113 rfl (by decide +kernel) (by decide +kernel) (Nat.le_of_ble_eq_true rfl) tm0 ?_
  refine wl_seq (wl_reg ?_)
  refine st_alloc rfl rfl (.boxE ratE rfl) ?_
  refine st_alloc rfl rfl (.boxE ratE rfl) ?_
  refine st_alloc rfl rfl (.alloc Z34a) ?_
  refine st_end nf0 ?_
  refine then_n (wl_seq (wl_seq (wl_reg ?_)))
  refine st_pure rfl ld34 ?_
  refine st_pure rfl ld34 ?_
  refine st_callP rfl (.cons im0 (.cons im0 .nil)) (c_RCmp _ _ (by omega)) ?_
  refine st_pure rfl (.bin rfl rfl rfl) ?_
  refine st_end nf0 ?_
  refine then_n ?_
  refine wl_cut (fun L => ∃ (q : Rat) (L1 : St), (q = (if b < a then b else a) ∧ rl q ≤ 549755813888) ∧ L = (((St.mk L1.slot (hp [(2, ⟨3, [ratL q], true⟩), (3, ⟨3, [ratL b], true⟩), (4, ⟨3, [.agg [.v (.bool false), .list 1 [], .list 1 []]], true⟩)])).put (some 2) (.eptr 2 3 0 0)).put (some 4) (.eptr 4 3 0 0))) ?_ ?_
  · skip
    refine wl_cond rfl (fun h8 => ?_) (fun h8 => ?_)
    · skip
      have h8r := h8
      try simp only [hce, l1, t0, t1, dflt, val_dig] at h8
      refine wl_reg ?_
      refine st_pure rfl ld34 ?_
      refine st_store rfl sr34 ?_
      refine st_end nf0 ?_
      refine then_n ?_
      exact ⟨b, _, ⟨by rw [if_pos (cmpR_neg.1 h8)], by omega⟩, ((put_id' (put_id' (mk_id' cl0) cl0) cl0)).symm⟩
    · skip
      have h8r := h8
      try simp only [hce, l1, t0, t1, dflt, val_dig] at h8
      refine wl_skip (then_n ?_)
      exact ⟨a, _, ⟨by rw [if_neg (fun h => h8 (cmpR_neg.2 h))], by omega⟩, ((put_id' (put_id' (mk_id' cl0) cl0) cl0)).symm⟩
  · skip
    rintro _ ⟨q, LC8, ⟨hq, hql⟩, rfl⟩
    refine then_n (wl_seq (wl_reg ?_))
    refine st_pure rfl ld34 ?_
    refine st_callP rfl (.cons im0 .nil) (c_copied _ (by omega)) ?_
    refine st_store rfl sr34 ?_
    refine st_end nf0 ?_
    refine then_n (wl_ret ?_)
    rw [← hq]
    exact retC [] rfl rfl rfl (ratE.csize _) (ratL_all _) T34 (.pure (ratE.pure _))
open H0 in
set_option maxHeartbeats 1000000 in
set_option maxRecDepth 100000 in
theorem c_RMax (a b : Rat) (h : rl a + rl b ≤ 549755813888) : CallP Try.prog 114 [ratL a, ratL b] (ratL (if a < b then b else a)) := by
  refine callP_of fol Try.func114 rfl (by decide +kernel) (by decide +kernel) (Nat.le_of_ble_eq_true rfl) tm0 ?_
  refine wl_seq (wl_reg ?_)
  refine st_alloc rfl rfl (.boxE ratE rfl) ?_
  refine st_alloc rfl rfl (.boxE ratE rfl) ?_
  refine st_alloc rfl rfl (.alloc Z34a) ?_
  refine st_end nf0 ?_
  refine then_n (wl_seq (wl_seq (wl_reg ?_)))
  refine st_pure rfl ld34 ?_
  refine st_pure rfl ld34 ?_
  refine st_callP rfl (.cons im0 (.cons im0 .nil)) (c_RCmp _ _ (by omega)) ?_
  refine st_pure rfl (.bin rfl rfl rfl) ?_
  refine st_end nf0 ?_
  refine then_n ?_
  refine wl_cut (fun L => ∃ (q : Rat) (L1 : St), (q = (if a < b then b else a) ∧ rl q ≤ 549755813888) ∧ L = (((St.mk L1.slot (hp [(2, ⟨3, [ratL q], true⟩), (3, ⟨3, [ratL b], true⟩), (4, ⟨3, [.agg [.v (.bool false), .list 1 [], .list 1 []]], true⟩)])).put (some 2) (.eptr 2 3 0 0)).put (some 4) (.eptr 4 3 0 0))) ?_ ?_
  · skip
    refine wl_cond rfl (fun h8 => ?_) (fun h8 => ?_)
    · skip
      have h8r := h8
      try simp only [hce, l1, t0, t1, dflt, val_dig] at h8
      refine wl_reg ?_
      refine st_pure rfl ld34 ?_
      refine st_store rfl sr34 ?_
      refine st_end nf0 ?_
      refine then_n ?_
      exact ⟨b, _, ⟨by rw [if_pos (cmpR_pos.1 h8)], by omega⟩, ((put_id' (put_id' (mk_id' cl0) cl0) cl0)).symm⟩
    · skip
      have h8r := h8
      try simp only [hce, l1, t0, t1, dflt, val_dig] at h8
      refine wl_skip (then_n ?_)
      exact ⟨a, _, ⟨by rw [if_neg (fun h => h8 (cmpR_pos.2 h))], by omega⟩, ((put_id' (put_id' (mk_id' cl0) cl0) cl0)).symm⟩
  · skip
    rintro _ ⟨q, LC8, ⟨hq, hql⟩, rfl⟩
    refine then_n (wl_seq (wl_reg ?_))
    refine st_pure rfl ld34 ?_
    refine st_callP rfl (.cons im0 .nil) (c_copied _ (by omega)) ?_
    refine st_store rfl sr34 ?_
    refine st_end nf0 ?_
    refine then_n (wl_ret ?_)
    rw [← hq]
    exact retC [] rfl rfl rfl (ratE.csize _) (ratL_all _) T34 (.pure (ratE.pure _))
end Go.Proofs.Ythhdcfhaldcheaa
