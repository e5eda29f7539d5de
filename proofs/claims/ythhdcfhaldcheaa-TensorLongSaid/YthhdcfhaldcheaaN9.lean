/- Rational numbers: short ones, reduced ones, integers. -/
import Derived.Test.YthhdcfhaldcheaaN8
set_option linter.unusedVariables false
set_option linter.unusedSimpArgs false
namespace Go.Proofs.Ythhdcfhaldcheaa
open Go.Lg
theorem val_nil : val [] = 0 := rfl
theorem blen_dec (n : Nat) : decide (((blen n : Nat) : Int) = 0) = decide (n = 0) := by
  rw [decide_eq_decide, ← blen_zero]; omega
theorem dig_is1 {n : Nat} (h : (dig n).length = 1) : (dig n).getD 0 0 = n ∧ 0 < n := by
  have h0 : 0 < n := Nat.pos_of_ne_zero (fun e => by rw [e, dig_zero] at h; cases h)
  rw [dig_small h0 (dig_len_le1.1 (by omega))]; exact ⟨rfl, h0⟩
theorem nfc_parts_0 {p : Prop} (h : p := by (try simp only [e1, e2, e3, e4, p1, p2, p3, q1, q2, q3, l1, t0, t1, r1, r2, r3, r4, Nat.zero_add, Nat.reduceMul, Nat.reduceAdd, b1, b2, b3, b4, b5, b6, i1, i2, i3, i4, i5, i6, Nat.reduceBEq, kills_map ratE, ratL_kill, dflt, val_dig]); exact rfl) : p := h
theorem clc_parts_1 {p : Prop} (h : p := by first | rfl | (simp only [e1, e2, e3, e4, p1, p2, p3, q1, q2, q3, l1, t0, t1, r1, r2, r3, r4, Nat.zero_add, Nat.reduceMul, Nat.reduceAdd, b1, b2, b3, b4, b5, b6, i1, i2, i3, i4, i5, i6, Nat.reduceBEq, kills_map ratE, ratL_kill, dflt, val_dig]; done) | (simp only [e1, e2, e3, e4, p1, p2, p3, q1, q2, q3, l1, t0, t1, r1, r2, r3, r4, Nat.zero_add, Nat.reduceMul, Nat.reduceAdd, b1, b2, b3, b4, b5, b6, i1, i2, i3, i4, i5, i6, Nat.reduceBEq, kills_map ratE, ratL_kill, dflt, val_dig]; rfl) | (simp only [e1, e2, e3, e4, p1, p2, p3, q1, q2, q3, l1, t0, t1, r1, r2, r3, r4, Nat.zero_add, Nat.reduceMul, Nat.reduceAdd, b1, b2, b3, b4, b5, b6, i1, i2, i3, i4, i5, i6, Nat.reduceBEq, kills_map ratE, ratL_kill, dflt, val_dig]; congr 3 <;> omega) | (simp only [e1, e2, e3, e4, p1, p2, p3, q1, q2, q3, l1, t0, t1, r1, r2, r3, r4, Nat.zero_add, Nat.reduceMul, Nat.reduceAdd, b1, b2, b3, b4, b5, b6, i1, i2, i3, i4, i5, i6, Nat.reduceBEq, kills_map ratE, ratL_kill, dflt, val_dig]; congr 2 <;> omega)) : p := h
namespace H_c_parts
theorem om {p : Prop} (h : p := by first | (simp only [e1, e2, e3, e4, p1, p2, p3, q1, q2, q3, l1, t0, t1, r1, r2, r3, r4, Nat.zero_add, Nat.reduceMul, Nat.reduceAdd, b1, b2, b3, b4, b5, b6, i1, i2, i3, i4, i5, i6, Nat.reduceBEq, kills_map ratE, ratL_kill, dflt, val_dig]; omega) | omega) : p := h
end H_c_parts
open H_c_parts in
set_option maxHeartbeats 2000000 in
set_option maxRecDepth 100000 in
theorem c_parts (q : Rat) : CallP Try.prog 105 [ratL q] (.tup [nU64 (pN q), nU64 (pD q), bL (smB q)]) := by
  have hdp := q.den_pos
  have hden := denN_eq q
  refine callP_of fol Try.func105 rfl (by decide +kernel) (by decide +kernel) (Nat.le_of_ble_eq_true rfl) tm0 ?_
  refine wl_seq (wl_reg ?_)
  refine st_alloc rfl rfl (.boxE ratE rfl) ?_
  refine asg (asg (asg ?_))
  refine st_end nfc_parts_0 ?_
  refine then_n (wl_seq (wl_seq (wl_reg ?_)))
  refine st_pure rfl fa34 ?_
  refine st_pure rfl ld32 ?_
  refine st_pure rfl ln32 ?_
  refine st_pure rfl (.bin rfl rfl rfl) ?_
  refine mv ?_
  refine opsL_split (d := 9) rfl (fun h9 => ?_) (fun h9 => ?_)
  · skip
    have h9r := h9
    try simp only [hce, l1, t0, t1, dflt, val_dig] at h9
    have hs : smB q = false := decide_eq_false (fun h => by have := dig_len_le1.2 h.1; omega)
    have h14 : True := trivial
    refine st_skip (guardX (v := true) rfl rfl (h9r) rfl) ?_
    refine st_skip (guardX (v := true) rfl rfl (h9r) rfl) ?_
    refine st_skip (guardX (v := true) rfl rfl (h9r) rfl) ?_
    refine st_skip (guardX (v := true) rfl rfl (h9r) rfl) ?_
    refine st_pure rfl (.pickT rfl (h9r)) ?_
    refine st_end nfc_parts_0 ?_
    refine then_n ?_
    refine wl_condX (b := _) rfl rfl ?_
    refine wl_seq (wl_reg (asg (asg (asg ?_))))
    refine st_end nfc_parts_0 ?_
    refine then_n (wl_ret (then_r ?_))
    simp only [pN, pD, hs, Bool.false_eq_true, if_false]
    exact ret3f [] rfl rfl (.pure rfl) rfl (.pure rfl) rfl (.pure rfl)
  · skip
    have h9r := h9
    try simp only [hce, l1, t0, t1, dflt, val_dig] at h9
    have hn1 := dig_len_le1.1 (show (dig q.num.natAbs).length ≤ 1 by omega)
    refine st_pure (guardX (v := false) rfl rfl (h9r) rfl) fa34 ?_
    refine st_pure (guardX (v := false) rfl rfl (h9r) rfl) ld32 ?_
    refine st_pure (guardX (v := false) rfl rfl (h9r) rfl) ln32 ?_
    refine st_pure (guardX (v := false) rfl rfl (h9r) rfl) (.bin rfl rfl rfl) ?_
    refine st_pure rfl (.pickF rfl (h9r)) ?_
    refine st_end nfc_parts_0 ?_
    refine then_n ?_
    refine wl_cond rfl (fun h14 => ?_) (fun h14 => ?_)
    · skip
      have h14r := h14
      try simp only [hce, l1, t0, t1, dflt, val_dig] at h14
      have hs : smB q = false := by first | exact hs | exact decide_eq_false (fun h => by have := sm_den h.2; omega)
      refine wl_seq (wl_reg (asg (asg (asg ?_))))
      refine st_end nfc_parts_0 ?_
      refine then_n (wl_ret (then_r ?_))
      simp only [pN, pD, hs, Bool.false_eq_true, if_false]
      exact ret3f [] rfl rfl (.pure rfl) rfl (.pure rfl) rfl (.pure rfl)
    · skip
      have h14r := h14
      try simp only [hce, l1, t0, t1, dflt, val_dig] at h14
      have hd1 : q.den < 4294967296 := by
        have := dig_len_le1.1 (show (dig (denN q)).length ≤ 1 by omega)
        rw [hden] at this; split at this <;> omega
      have hs : smB q = true := decide_eq_true ⟨hn1, hd1⟩
      refine wl_skip (then_n (wl_seq (wl_reg (asg ?_))))
      refine st_end nfc_parts_0 ?_
      refine then_n (wl_seq (wl_seq (wl_reg ?_)))
      refine st_pure rfl fa34 ?_
      refine st_pure rfl ld32 ?_
      refine st_pure rfl ln32 ?_
      refine st_pure rfl (.bin rfl rfl rfl) ?_
      refine st_end nfc_parts_0 ?_
      refine then_n ?_
      refine wl_cut (fun L => ∃ (d : Nat) (L1 : St), (d = q.den) ∧ L = (((St.mk L1.slot (hp [(1, ⟨3, [ratL q], true⟩)])).put (some 1) (.eptr 1 3 0 0)).put (some 3) (nU64 d))) ?_ ?_
      · skip
        refine wl_cond rfl (fun h18 => ?_) (fun h18 => ?_)
        · skip
          have h18r := h18
          try simp only [hce, l1, t0, t1, dflt, val_dig] at h18
          have hdn := denN_pos (q := q) (by omega)
          have hg0 : (dig (denN q)).getD 0 0 = q.den := by rw [hdn, dig_small hdp hd1]; rfl
          refine wl_reg ?_
          refine st_pure rfl fa34 ?_
          refine st_pure rfl ld32 ?_
          refine st_pure rfl ix32 ?_
          refine st_pure rfl ld31 ?_
          refine st_pure rfl (.cv64 Try.underlying31 Try.underlying116 rfl om) ?_
          refine asg ?_
          refine st_end nfc_parts_0 ?_
          refine then_n ?_
          exact ⟨(dig (denN q)).getD 0 0, _, hg0, ((put_id' (put_id' (mk_id' clc_parts_1) clc_parts_1) clc_parts_1)).symm⟩
        · skip
          have h18r := h18
          try simp only [hce, l1, t0, t1, dflt, val_dig] at h18
          have hdn := denN_zero (q := q) (by omega)
          refine wl_skip (then_n ?_)
          exact ⟨1, _, hdn.symm, ((put_id' (put_id' (mk_id' clc_parts_1) clc_parts_1) clc_parts_1)).symm⟩
      · skip
        rintro _ ⟨d, LC18, rfl, rfl⟩
        refine then_n (wl_seq (wl_reg ?_))
        refine st_pure rfl fa34 ?_
        refine st_pure rfl ld32 ?_
        refine st_callP rfl (.cons im0 .nil) (c_Rword _ (lim_dig _) (by omega)) ?_
        refine mv (mv ?_)
        refine st_pure rfl (.bin rfl rfl rfl) ?_
        refine asg (asg (asg ?_))
        refine st_end nfc_parts_0 ?_
        refine then_n (wl_ret ?_)
        simp only [pN, pD, hs, if_true]
        have hb0 : ((q.den : Int) != 0) = true := by simp; omega
        refine ret3f [] rfl rfl (.pure rfl) rfl (.pure rfl) (x'' := .v (.bool ((q.den : Int) != 0))) rfl ?_
        rw [hb0]
        exact .pure rfl
theorem nfc_short_0 {p : Prop} (h : p := by (try simp only [e1, e2, e3, e4, p1, p2, p3, q1, q2, q3, l1, t0, t1, r1, r2, r3, r4, Nat.zero_add, Nat.reduceMul, Nat.reduceAdd, b1, b2, b3, b4, b5, b6, i1, i2, i3, i4, i5, i6, Nat.reduceBEq, dflt, Nat.sub_zero, Nat.zero_add, Nat.add_sub_cancel_left, Nat.add_zero]); exact rfl) : p := h
theorem nfc_short_1 {p : Prop} (h : p := by (try simp only [e1, e2, e3, e4, p1, p2, p3, q1, q2, q3, l1, t0, t1, r1, r2, r3, r4, Nat.zero_add, Nat.reduceMul, Nat.reduceAdd, b1, b2, b3, b4, b5, b6, i1, i2, i3, i4, i5, i6, Nat.reduceBEq, dflt, Nat.sub_zero, Nat.zero_add, Nat.add_sub_cancel_left, Nat.add_zero, ← hN, ← hD]); exact rfl) : p := h
theorem mlc_short_2 {p : Prop} (h : p := by first | rfl | (simp only [e1, e2, e3, e4, p1, p2, p3, q1, q2, q3, l1, t0, t1, r1, r2, r3, r4, Nat.zero_add, Nat.reduceMul, Nat.reduceAdd, b1, b2, b3, b4, b5, b6, i1, i2, i3, i4, i5, i6, Nat.reduceBEq, dflt, Nat.sub_zero, Nat.zero_add, Nat.add_sub_cancel_left, Nat.add_zero]; done) | (simp only [e1, e2, e3, e4, p1, p2, p3, q1, q2, q3, l1, t0, t1, r1, r2, r3, r4, Nat.zero_add, Nat.reduceMul, Nat.reduceAdd, b1, b2, b3, b4, b5, b6, i1, i2, i3, i4, i5, i6, Nat.reduceBEq, dflt, Nat.sub_zero, Nat.zero_add, Nat.add_sub_cancel_left, Nat.add_zero]; rfl) | (simp only [e1, e2, e3, e4, p1, p2, p3, q1, q2, q3, l1, t0, t1, r1, r2, r3, r4, Nat.zero_add, Nat.reduceMul, Nat.reduceAdd, b1, b2, b3, b4, b5, b6, i1, i2, i3, i4, i5, i6, Nat.reduceBEq, dflt, Nat.sub_zero, Nat.zero_add, Nat.add_sub_cancel_left, Nat.add_zero]; congr 2 <;> omega)) : p := h
namespace H_c_short
theorem om {p : Prop} (h : p := by first | (simp only [e1, e2, e3, e4, p1, p2, p3, q1, q2, q3, l1, t0, t1, r1, r2, r3, r4, Nat.zero_add, Nat.reduceMul, Nat.reduceAdd, b1, b2, b3, b4, b5, b6, i1, i2, i3, i4, i5, i6, Nat.reduceBEq, dflt, Nat.sub_zero, Nat.zero_add, Nat.add_sub_cancel_left, Nat.add_zero]; omega) | omega) : p := h
end H_c_short
open H_c_short in
set_option maxHeartbeats 2000000 in
set_option maxRecDepth 100000 in
theorem c_short (s : Bool) (n d : Nat) (hn : n < 18446744073709551616) (hd0 : 0 < d) (hd : d < 18446744073709551616) : CallP Try.prog 106 [bL s, nU64 n, nU64 d] (ratL (qv s n d)) := by
  refine callP_of fol Try.func106 rfl (by decide +kernel) (by decide +kernel) (Nat.le_of_ble_eq_true rfl) tm0 ?_
  refine wl_seq (wl_reg ?_)
  refine st_alloc rfl rfl (.alloc Z34a) ?_
  refine st_end nfc_short_0 ?_
  refine then_n (wl_seq (wl_seq (wl_reg (mv ?_))))
  refine st_pure rfl (.bin rfl rfl rfl) ?_
  refine st_end nfc_short_0 ?_
  refine then_n ?_
  refine wl_cond rfl (fun h13 => ?_) (fun h13 => ?_)
  · skip
    have h13r := h13
    try simp only [hce, l1, t0, t1, dflt, val_dig] at h13
    refine wl_seq (wl_reg ?_)
    refine st_pure rfl (.build (zs := [.v (.bool false), .list 1 [], .list 1 []]) SL34 Z34a (by intro p hp; cases hp)) ?_
    refine st_store rfl sr34 ?_
    refine st_end nfc_short_0 ?_
    refine then_n (wl_ret (then_r ?_))
    obtain rfl : n = 0 := by omega
    rw [qv_zero, ratL_zero]
    exact retC [] rfl rfl rfl rfl rfl T34 (.pure rfl)
  · skip
    have h13r := h13
    try simp only [hce, l1, t0, t1, dflt, val_dig] at h13
    have hn0 : 0 < n := by omega
    have hg : 0 < Nat.gcd n d := Nat.gcd_pos_of_pos_left _ hn0
    have hn2 : 0 < n / Nat.gcd n d := Nat.div_pos (Nat.le_of_dvd hn0 (Nat.gcd_dvd_left n d)) hg
    have hd2 : 0 < d / Nat.gcd n d := Nat.div_pos (Nat.le_of_dvd hd0 (Nat.gcd_dvd_right n d)) hg
    have hn3 : n / Nat.gcd n d < 18446744073709551616 := Nat.lt_of_le_of_lt (Nat.div_le_self _ _) hn
    have hd3 : d / Nat.gcd n d < 18446744073709551616 := Nat.lt_of_le_of_lt (Nat.div_le_self _ _) hd
    have hE := ratL_qv s hn0 hd0
    obtain ⟨g, hgg⟩ : ∃ g, g = Nat.gcd n d := ⟨_, rfl⟩
    obtain ⟨N, hN⟩ : ∃ N, N = n / Nat.gcd n d := ⟨_, rfl⟩
    obtain ⟨D, hD⟩ : ∃ D, D = d / Nat.gcd n d := ⟨_, rfl⟩
    rw [← hN, ← hD] at hE
    rw [← hN] at hn2 hn3
    rw [← hD] at hd2 hd3
    have hk1 := dig_dlen hn2 hn3
    have hk2 := dig_dlen hd2 hd3
    obtain ⟨hs1, hs2⟩ := short_two hn2 hn3 hd2 hd3
    have hs0 := short_one hn2 hn3
    have hl1 : (putd [0, 0, 0, 0] 0 N).length = 4 := putd_len _ _ _
    have hl2 : (putd (putd [0, 0, 0, 0] 0 N) (dlen N) D).length = 4 := by rw [putd_len, putd_len]; rfl
    refine wl_skip (then_n (wl_seq (wl_reg (mv (mv ?_)))))
    refine st_callP rfl (.cons im0 (.cons im0 .nil)) (c_divisor _ _ (by omega) (by omega)) ?_
    refine asg ?_
    refine st_end nfc_short_0 ?_
    refine then_n (wl_seq ?_)
    refine wl_regD 8 (by decide +kernel) ?_
    refine mv (mv ?_)
    refine st_pure rfl (.bin rfl rfl (quoU (by omega) (by omega))) ?_
    refine mv (mv ?_)
    refine st_pure rfl (.bin rfl rfl (quoU (by omega) (by omega))) ?_
    refine asg (asg ?_)
    refine st_end nfc_short_1 ?_
    refine then_n (wl_seq (wl_reg ?_))
    refine st_alloc rfl rfl (.makeM (n := 4) (m := 4) u32E Try.underlying32 Z31 T31 B31 mlc_short_2 mlc_short_2 om om om) ?_
    refine asg ?_
    refine st_end nfc_short_0 ?_
    refine then_n (wl_seq (wl_reg (mv (mv ?_))))
    refine st_callM 24 rfl rfl rfl (pures_map u32E _) (.cons .ref (.cons (.imm (.pure rfl)) .nil)) (.ref (by decide)) (c_limbs [0, 0, 0, 0] 0 4 N hn3 (by omega) (by omega) (by simp)) rfl (pures_map u32E _) ?_
    refine asg ?_
    refine st_end nfc_short_0 ?_
    refine then_n (wl_seq (wl_reg (mv (mv (mv (mv ?_))))))
    refine st_pure rfl (.sliceR3 (a := 0) (h := dlen N) (mx := dlen N) rfl Try.underlying32 T31 (fun y hy => by cases hy) (fun _ => rfl) rfl rfl (by omega) (by omega) (by omega) (by omega)) ?_
    refine st_pure rfl (.build (zs := [.v (.bool false), .list 1 [], .list 1 []]) SL34 Z34a (by simp only [List.forall_mem_cons]; exact ⟨⟨_, rfl, rfl, ne0⟩, ⟨_, rfl, rfl, ne0⟩, fun _ h => by cases h⟩)) ?_
    refine st_alloc rfl rfl (.alloc Z34a) ?_
    refine st_store rfl sr34 ?_
    refine st_end nfc_short_0 ?_
    refine then_n (wl_seq (wl_seq (wl_reg (mv ?_))))
    refine st_pure rfl (.bin rfl rfl rfl) ?_
    refine st_end nfc_short_0 ?_
    refine then_n ?_
    refine wl_cond rfl (fun h35 => ?_) (fun h35 => ?_)
    · skip
      have h35r := h35
      try simp only [hce, l1, t0, t1, dflt, val_dig] at h35
      refine wl_seq (wl_reg (mv (mv (mv ?_))))
      refine st_pure rfl (.sliceR (a := dlen N) (h := 4) rfl Try.underlying32 T31 (fun y hy => by cases hy; exact ⟨_, rfl⟩) (fun h => by cases h) (fun y hy => by cases hy) (fun _ => rfl) (by omega) (by omega) (by omega)) ?_
      refine mv ?_
      refine st_callM 24 rfl rfl rfl (pures_map u32E _) (.cons .ref (.cons (.imm (.pure rfl)) .nil)) (.ref (by omega)) (c_limbs (putd [0, 0, 0, 0] 0 N) (0 + dlen N) (4 - dlen N) D hd3 (by omega) (by omega) (by omega)) rfl (pures_map u32E _) ?_
      refine st_pure rfl (.bin rfl rfl (add64 om om)) ?_
      refine asg ?_
      refine st_end nfc_short_0 ?_
      refine then_n (wl_reg (mv (mv (mv (mv ?_)))))
      refine st_pure rfl (.sliceR3 (a := dlen N) (h := dlen N + dlen D) (mx := dlen N + dlen D) rfl Try.underlying32 T31 (fun y hy => by cases hy; exact ⟨_, rfl⟩) (fun h => by cases h) rfl rfl (by omega) (by omega) (by omega) (by omega)) ?_
      refine st_pure rfl fa34 ?_
      refine st_store rfl (.store rfl rfl rfl rfl rfl rfl rfl T32 ne0) ?_
      refine st_end nfc_short_0 ?_
      refine then_n (wl_seq (wl_reg ?_))
      refine st_pure rfl ld34 ?_
      refine st_store rfl sr34 ?_
      refine st_end nfc_short_0 ?_
      refine then_n (wl_ret ?_)
      rw [hE, if_neg (by omega)]
      exact retC [24] rfl rfl rfl rfl rfl T34 (.agg (.cons (.pure rfl) (.cons (imm_refS u32E rfl rfl (by omega) hs1) (.cons (imm_refS u32E rfl rfl (by omega) hs2) .nil))))
    · skip
      have h35r := h35
      try simp only [hce, l1, t0, t1, dflt, val_dig] at h35
      refine wl_skip (then_n (wl_seq (wl_reg ?_)))
      refine st_pure rfl ld34 ?_
      refine st_store rfl sr34 ?_
      refine st_end nfc_short_0 ?_
      refine then_n (wl_ret ?_)
      rw [hE, if_pos (by omega)]
      exact retC [24] rfl rfl rfl rfl rfl T34 (.agg (.cons (.pure rfl) (.cons (imm_refS u32E rfl rfl (by omega) hs0) (.cons (.pure rfl) .nil))))
theorem nfc_reduce_0 {p : Prop} (h : p := by (try simp only [e1, e2, e3, e4, p1, p2, p3, q1, q2, q3, l1, t0, t1, r1, r2, r3, r4, Nat.zero_add, Nat.reduceMul, Nat.reduceAdd, b1, b2, b3, b4, b5, b6, i1, i2, i3, i4, i5, i6, Nat.reduceBEq, dflt, val_dig, val_nil, Nat.add_zero]); exact rfl) : p := h
theorem clc_reduce_1 {p : Prop} (h : p := by first | rfl | (simp only [e1, e2, e3, e4, p1, p2, p3, q1, q2, q3, l1, t0, t1, r1, r2, r3, r4, Nat.zero_add, Nat.reduceMul, Nat.reduceAdd, b1, b2, b3, b4, b5, b6, i1, i2, i3, i4, i5, i6, Nat.reduceBEq, dflt, val_dig, val_nil, Nat.add_zero]; done) | (simp only [e1, e2, e3, e4, p1, p2, p3, q1, q2, q3, l1, t0, t1, r1, r2, r3, r4, Nat.zero_add, Nat.reduceMul, Nat.reduceAdd, b1, b2, b3, b4, b5, b6, i1, i2, i3, i4, i5, i6, Nat.reduceBEq, dflt, val_dig, val_nil, Nat.add_zero]; rfl) | (simp only [e1, e2, e3, e4, p1, p2, p3, q1, q2, q3, l1, t0, t1, r1, r2, r3, r4, Nat.zero_add, Nat.reduceMul, Nat.reduceAdd, b1, b2, b3, b4, b5, b6, i1, i2, i3, i4, i5, i6, Nat.reduceBEq, dflt, val_dig, val_nil, Nat.add_zero]; congr 3 <;> omega) | (simp only [e1, e2, e3, e4, p1, p2, p3, q1, q2, q3, l1, t0, t1, r1, r2, r3, r4, Nat.zero_add, Nat.reduceMul, Nat.reduceAdd, b1, b2, b3, b4, b5, b6, i1, i2, i3, i4, i5, i6, Nat.reduceBEq, dflt, val_dig, val_nil, Nat.add_zero]; congr 2 <;> omega)) : p := h
namespace H_c_reduce
theorem om {p : Prop} (h : p := by first | (simp only [e1, e2, e3, e4, p1, p2, p3, q1, q2, q3, l1, t0, t1, r1, r2, r3, r4, Nat.zero_add, Nat.reduceMul, Nat.reduceAdd, b1, b2, b3, b4, b5, b6, i1, i2, i3, i4, i5, i6, Nat.reduceBEq, dflt, val_dig, val_nil, Nat.add_zero]; omega) | omega) : p := h
end H_c_reduce
open H_c_reduce in
set_option maxHeartbeats 2000000 in
set_option maxRecDepth 100000 in
theorem c_reduce (s : Bool) (a b : List Nat) (ha : Lim a) (hb : Lim b) (hla : a.length ≤ 1099511627776) (hlb : b.length ≤ 1099511627776) : CallP Try.prog 99 [bL s, limL a, limL b] (ratL (qv s (val a) (val b))) := by
  have hla2 := c_trimC a ha hla
  have hlb2 := c_trimC b hb hlb
  refine callP_of fol Try.func99 rfl (by decide +kernel) (by decide +kernel) (Nat.le_of_ble_eq_true rfl) tm0 ?_
  refine wl_seq (wl_reg ?_)
  refine st_alloc rfl rfl (.alloc Z34a) ?_
  refine st_end nfc_reduce_0 ?_
  refine then_n (wl_seq (wl_seq ?_))
  refine wl_cut (fun L => ∃ (t : Bool) (L1 : St), (t = decide (val a = 0 ∨ val b = 0)) ∧ L = ((((((St.mk L1.slot (hp [(6, ⟨3, [.agg [.v (.bool false), .list 1 [], .list 1 []]], true⟩)])).put (some 0) (bL s)).put (some 1) (limL a)).put (some 2) (limL b)).put (some 6) (.eptr 6 3 0 0)).put (some 15) (bL t))) ?_ ?_
  · skip
    refine wl_reg (mv ?_)
    refine st_callP rfl (.cons im0 .nil) (c_NBits _ (by first | assumption | exact lim_dig _) (by omega)) ?_
    refine st_pure rfl (.bin rfl rfl rfl) ?_
    refine mv ?_
    refine opsL_split (d := 11) rfl (fun h11 => ?_) (fun h11 => ?_)
    · skip
      have h11r := h11
      try simp only [hce, l1, t0, t1, dflt, val_dig] at h11
      have hz : val a = 0 := blen_zero.1 (by omega)
      refine st_skip (guardX (v := true) rfl rfl (h11r) rfl) ?_
      refine st_skip (guardX (v := true) rfl rfl (h11r) rfl) ?_
      refine st_skip (guardX (v := true) rfl rfl (h11r) rfl) ?_
      refine st_pure rfl (.pickT rfl (h11r)) ?_
      refine st_end nfc_reduce_0 ?_
      refine then_n ?_
      exact ⟨true, _, (decide_eq_true (.inl hz)).symm, ((put_id' (put_id' (put_id' (put_id' (put_id' (mk_id' clc_reduce_1) clc_reduce_1) clc_reduce_1) clc_reduce_1) clc_reduce_1) clc_reduce_1)).symm⟩
    · skip
      have h11r := h11
      try simp only [hce, l1, t0, t1, dflt, val_dig] at h11
      have hza : val a ≠ 0 := fun h => by rw [blen_zero.2 h] at h11; exact h11 rfl
      refine st_pure (guardX (v := false) rfl rfl (h11r) rfl) (.move _) ?_
      refine st_callP (guardX (v := false) rfl rfl (h11r) rfl) (.cons im0 .nil) (c_NBits _ (by first | assumption | exact lim_dig _) (by omega)) ?_
      refine st_pure (guardX (v := false) rfl rfl (h11r) rfl) (.bin rfl rfl rfl) ?_
      refine st_pure rfl (.pickF rfl (h11r)) ?_
      refine st_end nfc_reduce_0 ?_
      refine then_n ?_
      exact ⟨decide (((blen (val b) : Nat) : Int) = 0), _, by show decide _ = _; rw [blen_dec]; simp [hza], ((put_id' (put_id' (put_id' (put_id' (put_id' (mk_id' clc_reduce_1) clc_reduce_1) clc_reduce_1) clc_reduce_1) clc_reduce_1) clc_reduce_1)).symm⟩
  · skip
    rintro _ ⟨t, LR1, ht, rfl⟩
    refine then_n ?_
    refine wl_cond rfl (fun h15 => ?_) (fun h15 => ?_)
    · skip
      have h15r := h15
      try simp only [hce, l1, t0, t1, dflt, val_dig] at h15
      have hq : qv s (val a) (val b) = 0 := by
        rw [ht, decide_eq_true_eq] at h15r
        rcases h15r with h | h
        · rw [h]; exact qv_zero _ _
        · rw [h]; exact qv_den0 _ _
      refine wl_seq (wl_reg ?_)
      refine st_pure rfl (.build (zs := [.v (.bool false), .list 1 [], .list 1 []]) SL34 Z34a (by intro p hp; cases hp)) ?_
      refine st_store rfl sr34 ?_
      refine st_end nfc_reduce_0 ?_
      refine then_n (wl_ret (then_r ?_))
      rw [hq, ratL_zero]
      exact retC [] rfl rfl rfl rfl rfl T34 (.pure rfl)
    · skip
      have h15r := h15
      try simp only [hce, l1, t0, t1, dflt, val_dig] at h15
      rw [ht, decide_eq_false_iff_not, not_or] at h15r
      have ha0 : 0 < val a := Nat.pos_of_ne_zero h15r.1
      have hb0 : 0 < val b := Nat.pos_of_ne_zero h15r.2
      have hg : 0 < Nat.gcd (val a) (val b) := Nat.gcd_pos_of_pos_left _ ha0
      have hE := ratL_qv s ha0 hb0
      have hgl : (dig (Nat.gcd (val a) (val b))).length ≤ 1099511627776 := Nat.le_trans (len_dig_mono (Nat.le_of_dvd ha0 (Nat.gcd_dvd_left _ _))) hla2
      have hqa : (dig (val a / Nat.gcd (val a) (val b))).length ≤ 1099511627776 := Nat.le_trans (len_dig_mono (Nat.div_le_self _ _)) hla2
      have hqb : (dig (val b / Nat.gcd (val a) (val b))).length ≤ 1099511627776 := Nat.le_trans (len_dig_mono (Nat.div_le_self _ _)) hlb2
      refine wl_skip (then_n (wl_seq (wl_seq ?_)))
      refine wl_cut (fun L => ∃ (t : Bool) (L1 : St), (t = decide (a.length ≤ 2 ∧ b.length ≤ 2)) ∧ L = ((((((St.mk L1.slot (hp [(6, ⟨3, [.agg [.v (.bool false), .list 1 [], .list 1 []]], true⟩)])).put (some 0) (bL s)).put (some 1) (limL a)).put (some 2) (limL b)).put (some 6) (.eptr 6 3 0 0)).put (some 24) (bL t))) ?_ ?_
      · skip
        refine wl_reg (mv ?_)
        refine st_pure rfl ln32 ?_
        refine st_pure rfl (.bin rfl rfl rfl) ?_
        refine mv ?_
        refine opsL_split (d := 20) rfl (fun h20 => ?_) (fun h20 => ?_)
        · skip
          have h20r := h20
          try simp only [hce, l1, t0, t1, dflt, val_dig] at h20
          refine st_pure (guardX (v := true) rfl rfl (h20r) rfl) (.move _) ?_
          refine st_pure (guardX (v := true) rfl rfl (h20r) rfl) ln32 ?_
          refine st_pure (guardX (v := true) rfl rfl (h20r) rfl) (.bin rfl rfl rfl) ?_
          refine st_pure rfl (.pickT rfl (h20r)) ?_
          refine st_end nfc_reduce_0 ?_
          refine then_n ?_
          exact ⟨decide (((b.length : Nat) : Int) ≤ 2), _, by rw [decide_eq_decide]; omega, ((put_id' (put_id' (put_id' (put_id' (put_id' (mk_id' clc_reduce_1) clc_reduce_1) clc_reduce_1) clc_reduce_1) clc_reduce_1) clc_reduce_1)).symm⟩
        · skip
          have h20r := h20
          try simp only [hce, l1, t0, t1, dflt, val_dig] at h20
          refine st_skip (guardX (v := false) rfl rfl (h20r) rfl) ?_
          refine st_skip (guardX (v := false) rfl rfl (h20r) rfl) ?_
          refine st_skip (guardX (v := false) rfl rfl (h20r) rfl) ?_
          refine st_pure rfl (.pickF rfl (h20r)) ?_
          refine st_end nfc_reduce_0 ?_
          refine then_n ?_
          exact ⟨false, _, by symm; rw [decide_eq_false_iff_not]; omega, ((put_id' (put_id' (put_id' (put_id' (put_id' (mk_id' clc_reduce_1) clc_reduce_1) clc_reduce_1) clc_reduce_1) clc_reduce_1) clc_reduce_1)).symm⟩
      · skip
        rintro _ ⟨t, LR3, ht2, rfl⟩
        refine then_n ?_
        refine wl_cond rfl (fun h24 => ?_) (fun h24 => ?_)
        · skip
          have h24r := h24
          try simp only [hce, l1, t0, t1, dflt, val_dig] at h24
          rw [ht2, decide_eq_true_eq] at h24r
          have hla24 := h24r.1
          have hlb24 := h24r.2
          refine wl_seq (wl_reg (mv (mv ?_)))
          have hva := val_lt_len ha (k := 2) (by omega)
          have hvb := val_lt_len hb (k := 2) (by omega)
          refine st_callP rfl (.cons im0 .nil) (c_Rword a ha (by omega)) ?_
          refine mv ?_
          refine st_callP rfl (.cons im0 .nil) (c_Rword b hb (by omega)) ?_
          refine st_callP rfl (.cons im0 (.cons im0 (.cons im0 .nil))) (c_short _ _ _ hva hb0 hvb) ?_
          refine st_store rfl sr34 ?_
          refine st_end nfc_reduce_0 ?_
          refine then_n (wl_ret (then_r ?_))
          exact retC [] rfl rfl rfl (ratE.csize _) (ratL_all _) T34 (.pure (ratE.pure _))
        · skip
          have h24r := h24
          try simp only [hce, l1, t0, t1, dflt, val_dig] at h24
          refine wl_skip (then_n (wl_seq (wl_seq (wl_reg (mv (mv ?_))))))
          refine st_callP rfl (.cons im0 (.cons im0 .nil)) (c_NGcd _ _ (by first | assumption | exact lim_dig _) (by first | assumption | exact lim_dig _) (by omega) (by omega)) ?_
          refine asg ?_
          refine st_end nfc_reduce_0 ?_
          refine then_n (wl_seq (wl_reg (mv ?_)))
          refine st_callP rfl (.cons im0 .nil) (c_NBits _ (by first | assumption | exact lim_dig _) (by omega)) ?_
          refine st_pure rfl (.bin rfl rfl rfl) ?_
          refine st_end nfc_reduce_0 ?_
          refine then_n ?_
          refine wl_cut (fun L => ∃ (x : List Nat) (y : List Nat) (L1 : St), (Lim x ∧ Lim y ∧ x.length ≤ 1099511627776 ∧ y.length ≤ 1099511627776 ∧ val x = val a / Nat.gcd (val a) (val b) ∧ val y = val b / Nat.gcd (val a) (val b)) ∧ L = (((((St.mk L1.slot (hp [(6, ⟨3, [.agg [.v (.bool false), .list 1 [], .list 1 []]], true⟩)])).put (some 0) (bL s)).put (some 1) (limL x)).put (some 2) (limL y)).put (some 6) (.eptr 6 3 0 0))) ?_ ?_
          · skip
            refine wl_cond rfl (fun h36 => ?_) (fun h36 => ?_)
            · skip
              have h36r := h36
              try simp only [hce, l1, t0, t1, dflt, val_dig] at h36
              refine wl_seq (wl_reg (mv (mv ?_)))
              refine st_callP rfl (.cons im0 (.cons im0 .nil)) (c_NDiv _ _ (by first | assumption | exact lim_dig _) (by first | assumption | exact lim_dig _) (by omega) (by omega) (by rw [val_dig]; exact hg)) ?_
              refine mv ?_
              refine st_pure rfl (.extract rfl rfl nt0) ?_
              refine st_pure rfl (.extract rfl rfl nt0) ?_
              refine st_pure rfl (.extract rfl rfl nt0) ?_
              refine asg ?_
              refine st_end nfc_reduce_0 ?_
              refine then_n (wl_reg (mv (mv ?_)))
              refine st_callP rfl (.cons im0 (.cons im0 .nil)) (c_NDiv _ _ (by first | assumption | exact lim_dig _) (by first | assumption | exact lim_dig _) (by omega) (by omega) (by rw [val_dig]; exact hg)) ?_
              refine mv ?_
              refine st_pure rfl (.extract rfl rfl nt0) ?_
              refine st_pure rfl (.extract rfl rfl nt0) ?_
              refine st_pure rfl (.extract rfl rfl nt0) ?_
              refine asg ?_
              refine st_end nfc_reduce_0 ?_
              refine then_n ?_
              exact ⟨dig (val a / Nat.gcd (val a) (val b)), dig (val b / Nat.gcd (val a) (val b)), _, ⟨lim_dig _, lim_dig _, hqa, hqb, val_dig _, val_dig _⟩, ((put_id' (put_id' (put_id' (put_id' (mk_id' clc_reduce_1) clc_reduce_1) clc_reduce_1) clc_reduce_1) clc_reduce_1)).symm⟩
            · skip
              have h36r := h36
              try simp only [hce, l1, t0, t1, dflt, val_dig] at h36
              have hg1 : Nat.gcd (val a) (val b) = 1 := blen_one.1 (by have := blen_zero (n := Nat.gcd (val a) (val b)); omega)
              refine wl_skip (then_n ?_)
              exact ⟨a, b, _, ⟨ha, hb, hla, hlb, by rw [hg1, Nat.div_one], by rw [hg1, Nat.div_one]⟩, ((put_id' (put_id' (put_id' (put_id' (mk_id' clc_reduce_1) clc_reduce_1) clc_reduce_1) clc_reduce_1) clc_reduce_1)).symm⟩
          · skip
            rintro _ ⟨x, y, LC36, ⟨hx, hy, hlx, hly, hvx, hvy⟩, rfl⟩
            rw [← hvx, ← hvy] at hE
            have hy0 : 0 < val y := by rw [hvy]; exact Nat.div_pos (Nat.le_of_dvd hb0 (Nat.gcd_dvd_right _ _)) hg
            refine then_n (wl_seq (wl_reg (mv ?_)))
            refine st_callP rfl (.cons im0 (.cons im0 .nil)) (c_Add x [] hx (by intro y hy; cases hy) hlx (by simp)) ?_
            refine mv ?_
            refine st_callP rfl (.cons im0 (.cons im0 .nil)) (c_Add y [] hy (by intro y hy; cases hy) hly (by simp)) ?_
            refine asg (asg ?_)
            refine st_end nfc_reduce_0 ?_
            refine then_n (wl_seq (wl_seq (wl_reg (mv ?_))))
            refine st_pure rfl ln32 ?_
            refine st_pure rfl (.bin rfl rfl rfl) ?_
            refine mv ?_
            refine opsL_split (d := 58) rfl (fun h58 => ?_) (fun h58 => ?_)
            · skip
              have h58r := h58
              try simp only [hce, l1, t0, t1, dflt, val_dig] at h58
              refine st_pure (guardX (v := true) rfl rfl (h58r) rfl) (.move _) ?_
              refine st_pure (guardX (v := true) rfl rfl (h58r) rfl) ix32 ?_
              refine st_pure (guardX (v := true) rfl rfl (h58r) rfl) ld31 ?_
              refine st_pure (guardX (v := true) rfl rfl (h58r) rfl) (.bin rfl rfl rfl) ?_
              refine st_pure rfl (.pickT rfl (h58r)) ?_
              refine st_end nfc_reduce_0 ?_
              refine then_n ?_
              refine wl_cond rfl (fun h63 => ?_) (fun h63 => ?_)
              · skip
                have h63r := h63
                try simp only [hce, l1, t0, t1, dflt, val_dig] at h63
                have hy1 : val y = 1 := by have := (dig_is1 (n := val y) (by omega)).1; omega
                refine wl_reg (asg ?_)
                refine st_end nfc_reduce_0 ?_
                refine then_n (wl_seq (wl_reg (mv (mv (mv ?_)))))
                refine st_pure rfl (.build (zs := [.v (.bool false), .list 1 [], .list 1 []]) SL34 Z34a (by simp only [List.forall_mem_cons]; exact ⟨⟨_, rfl, rfl, ne0⟩, ⟨_, rfl, rfl, ne0⟩, ⟨_, rfl, rfl, ne0⟩, fun _ h => by cases h⟩)) ?_
                refine st_store rfl sr34 ?_
                refine st_end nfc_reduce_0 ?_
                refine then_n (wl_ret ?_)
                rw [hE, if_pos hy1]
                exact retC [] rfl rfl rfl rfl rfl T34 (.agg (.cons (.pure rfl) (.cons (.pure (magL_pure _)) (.cons (.nil 1) .nil))))
              · skip
                have h63r := h63
                try simp only [hce, l1, t0, t1, dflt, val_dig] at h63
                have hy1 : val y ≠ 1 := by have := (dig_is1 (n := val y) (by omega)).1; omega
                refine wl_skip (then_n (wl_seq (wl_reg (mv (mv (mv ?_))))))
                refine st_pure rfl (.build (zs := [.v (.bool false), .list 1 [], .list 1 []]) SL34 Z34a (by simp only [List.forall_mem_cons]; exact ⟨⟨_, rfl, rfl, ne0⟩, ⟨_, rfl, rfl, ne0⟩, ⟨_, rfl, rfl, ne0⟩, fun _ h => by cases h⟩)) ?_
                refine st_store rfl sr34 ?_
                refine st_end nfc_reduce_0 ?_
                refine then_n (wl_ret ?_)
                rw [hE, if_neg hy1]
                exact retC [] rfl rfl rfl rfl rfl T34 (.agg (.cons (.pure rfl) (.cons (.pure (magL_pure _)) (.cons (.pure (magL_pure _)) .nil))))
            · skip
              have h58r := h58
              try simp only [hce, l1, t0, t1, dflt, val_dig] at h58
              have hy1 : val y ≠ 1 := fun e => by rw [e, dig_one] at h58; exact h58 rfl
              refine st_skip (guardX (v := false) rfl rfl (h58r) rfl) ?_
              refine st_skip (guardX (v := false) rfl rfl (h58r) rfl) ?_
              refine st_skip (guardX (v := false) rfl rfl (h58r) rfl) ?_
              refine st_skip (guardX (v := false) rfl rfl (h58r) rfl) ?_
              refine st_pure rfl (.pickF rfl (h58r)) ?_
              refine st_end nfc_reduce_0 ?_
              refine then_n ?_
              refine wl_condY (b := _) rfl rfl ?_
              refine wl_skip (then_n (wl_seq (wl_reg (mv (mv (mv ?_))))))
              refine st_pure rfl (.build (zs := [.v (.bool false), .list 1 [], .list 1 []]) SL34 Z34a (by simp only [List.forall_mem_cons]; exact ⟨⟨_, rfl, rfl, ne0⟩, ⟨_, rfl, rfl, ne0⟩, ⟨_, rfl, rfl, ne0⟩, fun _ h => by cases h⟩)) ?_
              refine st_store rfl sr34 ?_
              refine st_end nfc_reduce_0 ?_
              refine then_n (wl_ret ?_)
              rw [hE, if_neg hy1]
              exact retC [] rfl rfl rfl rfl rfl T34 (.agg (.cons (.pure rfl) (.cons (.pure (magL_pure _)) (.cons (.pure (magL_pure _)) .nil))))
open H0 in
set_option maxHeartbeats 1000000 in
set_option maxRecDepth 100000 in
theorem c_size (n : Int) (h1 : -9223372036854775808 ≤ n) (h2 : n ≤ 9223372036854775807) : CallP Try.prog 100 [iL n] (magL n.natAbs) := by
  refine callP_of fol Try.func100 rfl (by decide +kernel) (by decide +kernel) (Nat.le_of_ble_eq_true rfl) tm0 ?_
  refine wl_seq (wl_reg (asg ?_))
  refine st_end nf0 ?_
  refine then_n (wl_seq (wl_seq (wl_reg (mv ?_))))
  refine st_pure rfl (.bin rfl rfl rfl) ?_
  refine st_end nf0 ?_
  refine then_n ?_
  refine wl_cond rfl (fun h4 => ?_) (fun h4 => ?_)
  · skip
    have h4r := h4
    try simp only [hce, l1, t0, t1, dflt, val_dig] at h4
    refine wl_seq (wl_reg ?_)
    refine st_callP rfl (.cons im0 .nil) (c_NOf 9223372036854775808 (by omega)) ?_
    refine asg ?_
    refine st_end nf0 ?_
    refine then_n (wl_ret (then_r ?_))
    rw [show n.natAbs = 9223372036854775808 by omega]
    exact ret1 rfl (by first | exact .pure rfl | exact .pure (limL_pure _) | exact .pure (magL_pure _) | exact .pure (ratE.pure _) | exact .pure (pure_lst u32E _ _) | exact .pure (pure_lst ratE _ _))
  · skip
    have h4r := h4
    try simp only [hce, l1, t0, t1, dflt, val_dig] at h4
    refine wl_skip (then_n (wl_seq (wl_reg (mv (mv ?_)))))
    refine st_pure rfl (.neg rfl) ?_
    refine st_pure rfl (.max2 rfl rfl) ?_
    refine st_pure rfl (.cv64 (n := n.natAbs) Try.underlying2 Try.underlying116 (by simp only [e1, p1, p2, Nat.reduceBEq]; rw [max_abs (by omega) (by omega)]) (by omega)) ?_
    refine st_callP rfl (.cons im0 .nil) (c_NOf n.natAbs (by omega)) ?_
    refine asg ?_
    refine st_end nf0 ?_
    refine then_n (wl_ret ?_)
    exact ret1 rfl (by first | exact .pure rfl | exact .pure (limL_pure _) | exact .pure (magL_pure _) | exact .pure (ratE.pure _) | exact .pure (pure_lst u32E _ _) | exact .pure (pure_lst ratE _ _))
theorem retCT {P : Program} {L : St} {a u : Nat} {T : TypeId} {b sz : Nat} {x y x' y' : LV} {m : Bool} {n : Nat} {ag : Bool} (bs : List Nat) (h0 : bs.contains 0 = false) (h : L.slot a = .eptr b sz 0 0) (hb : L.heap b = some ⟨sz, [x], m⟩)
    (hx : x.csize = sz) (hat : x.at 0 n ag = some x) (hT : TyIs P T n ag) (hi : Imm (L.frz bs).heap x y) (h' : L.slot u = x') (hi' : Imm (L.frz bs).heap x' y') : RetL P [.cell a T, .tmp u] L (.tup [y, y']) [] :=
  ⟨[x, x'], [y, y'], (L.frz bs).heap, [], .cons ⟨b, sz, 0, 0, _, x, n, ag, h, hb, rfl, rfl, hx, hat, hT⟩ (.cons h' .nil), frz_le bs h0, .cons (.imm hi) (.cons (.imm hi') .nil), List.nodup_nil, rfl, fun k b h => by simp at h, rfl⟩
theorem nfc_RInt_0 {p : Prop} (h : p := by (try simp only [e1, e2, e3, e4, p1, p2, p3, q1, q2, q3, l1, t0, t1, r1, r2, r3, r4, Nat.zero_add, Nat.reduceMul, Nat.reduceAdd, b1, b2, b3, b4, b5, b6, i1, i2, i3, i4, i5, i6, Nat.reduceBEq, val_dig]); exact rfl) : p := h
namespace H_c_RInt
theorem om {p : Prop} (h : p := by first | (simp only [e1, e2, e3, e4, p1, p2, p3, q1, q2, q3, l1, t0, t1, r1, r2, r3, r4, Nat.zero_add, Nat.reduceMul, Nat.reduceAdd, b1, b2, b3, b4, b5, b6, i1, i2, i3, i4, i5, i6, Nat.reduceBEq, val_dig]; omega) | omega) : p := h
end H_c_RInt
open H_c_RInt in
set_option maxHeartbeats 1000000 in
set_option maxRecDepth 100000 in
theorem c_RInt (n : Int) (h1 : -9223372036854775808 ≤ n) (h2 : n ≤ 9223372036854775807) : CallP Try.prog 62 [iL n] (ratL (n : Rat)) := by
  refine callP_of fol Try.func62 rfl (by decide +kernel) (by decide +kernel) (Nat.le_of_ble_eq_true rfl) tm0 ?_
  refine wl_seq (wl_reg ?_)
  refine st_alloc rfl rfl (.alloc Z34a) ?_
  refine st_end nfc_RInt_0 ?_
  refine then_n (wl_seq (wl_reg (mv ?_)))
  refine st_pure rfl (.bin rfl rfl rfl) ?_
  refine mv ?_
  refine st_callP rfl (.cons im0 .nil) (c_size _ (by omega) (by omega)) ?_
  refine st_callP rfl .nil (c_one) ?_
  refine st_callP rfl (.cons im0 (.cons im0 (.cons im0 .nil))) (c_reduce (decide (n < 0)) (dig n.natAbs) (dig 1) (lim_dig _) (lim_dig _) (Nat.le_trans (dig_len_le2.2 (by omega)) (by omega)) (by rw [dig_one]; decide)) ?_
  refine st_store rfl sr34 ?_
  refine st_end nfc_RInt_0 ?_
  refine then_n (wl_ret ?_)
  rw [← qv_int n]
  exact retC [] rfl rfl rfl (ratE.csize _) (ratL_all _) T34 (.pure (ratE.pure _))
theorem nfc_RMake_0 {p : Prop} (h : p := by (try simp only [e1, e2, e3, e4, p1, p2, p3, q1, q2, q3, l1, t0, t1, r1, r2, r3, r4, Nat.zero_add, Nat.reduceMul, Nat.reduceAdd, b1, b2, b3, b4, b5, b6, i1, i2, i3, i4, i5, i6, Nat.reduceBEq, val_dig]); exact rfl) : p := h
namespace H_c_RMake
theorem om {p : Prop} (h : p := by first | (simp only [e1, e2, e3, e4, p1, p2, p3, q1, q2, q3, l1, t0, t1, r1, r2, r3, r4, Nat.zero_add, Nat.reduceMul, Nat.reduceAdd, b1, b2, b3, b4, b5, b6, i1, i2, i3, i4, i5, i6, Nat.reduceBEq, val_dig]; omega) | omega) : p := h
end H_c_RMake
open H_c_RMake in
set_option maxHeartbeats 1000000 in
set_option maxRecDepth 100000 in
theorem c_RMake (n d : Int) (h1 : -9223372036854775808 ≤ n) (h2 : n ≤ 9223372036854775807) (h3 : -9223372036854775808 ≤ d) (h4 : d ≤ 9223372036854775807) (hd : d ≠ 0) : CallP Try.prog 111 [iL n, iL d] (.tup [ratL ((n : Rat) / (d : Rat)), iL 0]) := by
  refine callP_of fol Try.func111 rfl (by decide +kernel) (by decide +kernel) (Nat.le_of_ble_eq_true rfl) tm0 ?_
  refine wl_seq (wl_reg ?_)
  refine st_alloc rfl rfl (.alloc Z34a) ?_
  refine asg ?_
  refine st_end nfc_RMake_0 ?_
  refine then_n (wl_seq (wl_seq (wl_reg (mv ?_))))
  refine st_pure rfl (.bin rfl rfl rfl) ?_
  refine st_end nfc_RMake_0 ?_
  refine then_n ?_
  refine wl_cond rfl (fun h7 => ?_) (fun h7 => ?_)
  · skip
    have h7r := h7
    try simp only [hce, l1, t0, t1, dflt, val_dig] at h7
    exact absurd h7 hd
  · skip
    have h7r := h7
    try simp only [hce, l1, t0, t1, dflt, val_dig] at h7
    refine wl_skip (then_n (wl_seq (wl_reg (mv ?_))))
    refine st_pure rfl (.bin rfl rfl rfl) ?_
    refine mv ?_
    refine st_pure rfl (.bin rfl rfl rfl) ?_
    refine st_pure rfl (.bne rfl rfl Try.underlying4) ?_
    refine mv ?_
    refine st_callP rfl (.cons im0 .nil) (c_size _ (by omega) (by omega)) ?_
    refine mv ?_
    refine st_callP rfl (.cons im0 .nil) (c_size _ (by omega) (by omega)) ?_
    refine st_callP rfl (.cons im0 (.cons im0 (.cons im0 .nil))) (c_reduce (decide (n < 0) != decide (d < 0)) (dig n.natAbs) (dig d.natAbs) (lim_dig _) (lim_dig _) (Nat.le_trans (dig_len_le2.2 (by omega)) (by omega)) (Nat.le_trans (dig_len_le2.2 (by omega)) (by omega))) ?_
    refine st_store rfl sr34 ?_
    refine asg ?_
    refine st_end nfc_RMake_0 ?_
    refine then_n (wl_ret ?_)
    rw [← qv_ints]
    exact retCT [] rfl rfl rfl (ratE.csize _) (ratL_all _) T34 (.pure (ratE.pure _)) rfl (.pure rfl)
end Go.Proofs.Ythhdcfhaldcheaa
