/- Magnitudes: contracts of comparisons, differences, products. -/
import Derived.Test.YthhdcfhaldcheaaN2
set_option linter.unusedVariables false
set_option linter.unusedSimpArgs false
namespace Go.Proofs.Ythhdcfhaldcheaa
open Go.Lg
theorem nfc_NCmp_0 {p : Prop} (h : p := by (try simp only [e1, e2, e3, e4, p1, p2, p3, q1, q2, q3, l1, t0, t1, r1, r2, r3, r4, Nat.zero_add, Nat.reduceMul, Nat.reduceAdd, b1, b2, b3, b4, b5, b6, i1, i2, i3, i4, i5, i6, Nat.reduceBEq, dflt, ej, ek]); exact rfl) : p := h
theorem clc_NCmp_1 {p : Prop} (h : p := by first | rfl | (simp only [e1, e2, e3, e4, p1, p2, p3, q1, q2, q3, l1, t0, t1, r1, r2, r3, r4, Nat.zero_add, Nat.reduceMul, Nat.reduceAdd, b1, b2, b3, b4, b5, b6, i1, i2, i3, i4, i5, i6, Nat.reduceBEq, dflt, ej, ek]; done) | (simp only [e1, e2, e3, e4, p1, p2, p3, q1, q2, q3, l1, t0, t1, r1, r2, r3, r4, Nat.zero_add, Nat.reduceMul, Nat.reduceAdd, b1, b2, b3, b4, b5, b6, i1, i2, i3, i4, i5, i6, Nat.reduceBEq, dflt, ej, ek]; rfl) | (simp only [e1, e2, e3, e4, p1, p2, p3, q1, q2, q3, l1, t0, t1, r1, r2, r3, r4, Nat.zero_add, Nat.reduceMul, Nat.reduceAdd, b1, b2, b3, b4, b5, b6, i1, i2, i3, i4, i5, i6, Nat.reduceBEq, dflt, ej, ek]; congr 3 <;> omega) | (simp only [e1, e2, e3, e4, p1, p2, p3, q1, q2, q3, l1, t0, t1, r1, r2, r3, r4, Nat.zero_add, Nat.reduceMul, Nat.reduceAdd, b1, b2, b3, b4, b5, b6, i1, i2, i3, i4, i5, i6, Nat.reduceBEq, dflt, ej, ek]; congr 2 <;> omega)) : p := h
namespace H_c_NCmp
theorem om {p : Prop} (h : p := by first | (simp only [e1, e2, e3, e4, p1, p2, p3, q1, q2, q3, l1, t0, t1, r1, r2, r3, r4, Nat.zero_add, Nat.reduceMul, Nat.reduceAdd, b1, b2, b3, b4, b5, b6, i1, i2, i3, i4, i5, i6, Nat.reduceBEq, dflt, ej, ek]; omega) | omega) : p := h
end H_c_NCmp
open H_c_NCmp in
set_option maxHeartbeats 1000000 in
set_option maxRecDepth 100000 in
theorem c_NCmp (a b : List Nat) (ha : Lim a) (hb : Lim b) (hla : a.length ≤ 1099511627776) (hlb : b.length ≤ 1099511627776) : CallP Try.prog 146 [limL a, limL b] (iL (cmpN (val a) (val b))) := by
  refine callP_of fol Try.func146 rfl (by decide +kernel) (by decide +kernel) (Nat.le_of_ble_eq_true rfl) tm0 ?_
  have ej : True := trivial
  have ek : True := trivial
  refine wl_seq (wl_reg (asg ?_))
  refine st_end nfc_NCmp_0 ?_
  refine then_n (wl_seq (wl_reg (mv ?_)))
  refine st_callP rfl (.cons im0 .nil) (c_trimD _ (by first | assumption | exact lim_dig _) (by omega)) ?_
  refine mv ?_
  refine st_callP rfl (.cons im0 .nil) (c_trimD _ (by first | assumption | exact lim_dig _) (by omega)) ?_
  refine asg (asg ?_)
  refine st_end nfc_NCmp_0 ?_
  refine then_n (wl_seq (wl_seq (wl_reg (mv ?_))))
  refine st_pure rfl ln32 ?_
  refine mv ?_
  refine st_pure rfl ln32 ?_
  refine st_pure rfl (.bin rfl rfl rfl) ?_
  refine st_end nfc_NCmp_0 ?_
  refine then_n ?_
  refine wl_cond rfl (fun h14 => ?_) (fun h14 => ?_)
  · skip
    have h14r := h14
    try simp only [hce, l1, t0, t1, dflt, val_dig] at h14
    have hla2 : (dig (val a)).length ≤ 1099511627776 := by rw [← trimL_dig ha]; unfold trimL; simp; omega
    refine wl_seq (wl_seq (wl_reg (mv ?_)))
    refine st_pure rfl ln32 ?_
    refine mv ?_
    refine st_pure rfl ln32 ?_
    refine st_pure rfl (.bin rfl rfl rfl) ?_
    refine st_end nfc_NCmp_0 ?_
    refine then_n ?_
    refine wl_cond rfl (fun h19 => ?_) (fun h19 => ?_)
    · skip
      have h19r := h19
      try simp only [hce, l1, t0, t1, dflt, val_dig] at h19
      have hE := lt_of_len (m := val a) (n := val b) (by omega)
      refine wl_seq (wl_reg (asg ?_))
      refine st_end nfc_NCmp_0 ?_
      refine then_n (wl_ret (then_r (then_r ?_)))
      first | (rw [cmpN_lt hE]; exact ret1 rfl (.pure rfl)) | (rw [cmpN_gt hE]; exact ret1 rfl (.pure rfl)) | (rw [cmpN_eq hE]; exact ret1 rfl (.pure rfl))
    · skip
      have h19r := h19
      try simp only [hce, l1, t0, t1, dflt, val_dig] at h19
      have hE := lt_of_len (m := val b) (n := val a) (by omega)
      refine wl_skip (then_n (wl_seq (wl_reg (asg ?_))))
      refine st_end nfc_NCmp_0 ?_
      refine then_n (wl_ret (then_r ?_))
      first | (rw [cmpN_lt hE]; exact ret1 rfl (.pure rfl)) | (rw [cmpN_gt hE]; exact ret1 rfl (.pure rfl)) | (rw [cmpN_eq hE]; exact ret1 rfl (.pure rfl))
  · skip
    have h14r := h14
    try simp only [hce, l1, t0, t1, dflt, val_dig] at h14
    have hlen : (dig (val a)).length = (dig (val b)).length := by omega
    have hla2 : (dig (val a)).length ≤ 1099511627776 := by rw [← trimL_dig ha]; unfold trimL; simp; omega
    clear h14 h14r
    refine wl_skip (then_n (wl_seq (wl_seq (wl_reg (mv ?_)))))
    refine st_pure rfl ln32 ?_
    refine st_pure rfl (.bin rfl rfl (sub64 om om)) ?_
    refine asg ?_
    refine st_end nfc_NCmp_0 ?_
    refine then_n (wl_block ?_)
    refine wl_loop (α := Nat) (fun st L => ((((St.mk L.slot (hp [])).put (some 0) (magL (val a))).put (some 1) (magL (val b))).put (some 5) (iL ((st : Int) - 1)))) (fun st => st ≤ (dig (val a)).length ∧ (dig (val a)).drop st = (dig (val b)).drop st) (fun st => st) (dig (val a)).length (show ((dig (val a)).length) ≤ (dig (val a)).length ∧ (dig (val a)).drop ((dig (val a)).length) = (dig (val b)).drop ((dig (val a)).length) from ⟨Nat.le_refl _, by rw [List.drop_length, List.drop_of_length_le (by omega)]⟩) ⟨_, Weak.of_eq (put_id' (put_id' (put_id' (mk_id' clc_NCmp_1) clc_NCmp_1) clc_NCmp_1) clc_NCmp_1)⟩ ?_
    rintro k L1 hLC
    obtain ⟨hk, hd⟩ : k ≤ (dig (val a)).length ∧ (dig (val a)).drop k = (dig (val b)).drop k := hLC
    show wpL _ _ _ ((((St.mk L1.slot (hp [])).put (some 0) (magL (val a))).put (some 1) (magL (val b))).put (some 5) (iL ((k : Int) - 1)))
    refine wl_seq (wl_seq (wl_reg (mv ?_)))
    refine st_pure rfl (.bin rfl rfl rfl) ?_
    refine st_end nfc_NCmp_0 ?_
    refine then_n ?_
    refine wl_cond rfl (fun h24 => ?_) (fun h24 => ?_)
    · skip
      have h24r := h24
      try simp only [hce, l1, t0, t1, dflt, val_dig] at h24
      obtain ⟨j, rfl⟩ : ∃ j, k = j + 1 := ⟨k - 1, by omega⟩
      have ej : (((j + 1 : Nat) : Int) - 1).toNat = j := by omega
      have ek : (((j + 1 : Nat) : Int) - 1) = j := by omega
      refine wl_skip (then_n (wl_seq (wl_block (wl_seq ?_))))
      refine wl_regD 9 (by decide +kernel) ?_
      refine mv (mv ?_)
      refine st_pure rfl ix32 ?_
      refine st_pure rfl ld31 ?_
      refine mv (mv ?_)
      refine st_pure rfl ix32 ?_
      refine st_pure rfl ld31 ?_
      refine st_pure rfl (.bin rfl rfl rfl) ?_
      refine st_end nfc_NCmp_0 ?_
      refine then_n ?_
      refine wl_cond rfl (fun h35 => ?_) (fun h35 => ?_)
      · skip
        have h35r := h35
        try simp only [hce, l1, t0, t1, dflt, val_dig] at h35
        refine wl_seq (wl_seq ?_)
        refine wl_regD 9 (by decide +kernel) ?_
        refine mv (mv ?_)
        refine st_pure rfl ix32 ?_
        refine st_pure rfl ld31 ?_
        refine mv (mv ?_)
        refine st_pure rfl ix32 ?_
        refine st_pure rfl ld31 ?_
        refine st_pure rfl (.bin rfl rfl rfl) ?_
        refine st_end nfc_NCmp_0 ?_
        refine then_n ?_
        refine wl_cond rfl (fun h44 => ?_) (fun h44 => ?_)
        · skip
          have h44r := h44
          try simp only [hce, l1, t0, t1, dflt, val_dig] at h44
          have hE := val_lt_of_limb (lim_dig (val a)) (k := j) (by omega) (by omega) hd (by omega)
          rw [val_dig, val_dig] at hE
          refine wl_seq (wl_reg (asg ?_))
          refine st_end nfc_NCmp_0 ?_
          refine then_n (wl_ret (then_r (blk_r (then_r (then_r (blk_r (then_r ?_)))))))
          first | (rw [cmpN_lt hE]; exact ret1 rfl (.pure rfl)) | (rw [cmpN_gt hE]; exact ret1 rfl (.pure rfl)) | (rw [cmpN_eq hE]; exact ret1 rfl (.pure rfl))
        · skip
          have h44r := h44
          try simp only [hce, l1, t0, t1, dflt, val_dig] at h44
          have hE := val_lt_of_limb (lim_dig (val b)) (k := j) (by omega) (by omega) hd.symm (by omega)
          rw [val_dig, val_dig] at hE
          refine wl_skip (then_n (wl_seq (wl_reg (asg ?_))))
          refine st_end nfc_NCmp_0 ?_
          refine then_n (wl_ret (blk_r (then_r (then_r (blk_r (then_r ?_))))))
          first | (rw [cmpN_lt hE]; exact ret1 rfl (.pure rfl)) | (rw [cmpN_gt hE]; exact ret1 rfl (.pure rfl)) | (rw [cmpN_eq hE]; exact ret1 rfl (.pure rfl))
      · skip
        have h35r := h35
        try simp only [hce, l1, t0, t1, dflt, val_dig] at h35
        refine wl_skip (blk_n (then_n (wl_reg (mv ?_))))
        refine st_pure rfl (.bin rfl rfl (sub64 om om)) ?_
        refine asg ?_
        refine st_end nfc_NCmp_0 ?_
        refine then_n ?_
        exact ⟨j, _, (show (j) ≤ (dig (val a)).length ∧ (dig (val a)).drop (j) = (dig (val b)).drop (j) from ⟨by omega, drop_eq_of (by omega) (by omega) hd (by omega)⟩), (show (j) < j + 1 from by omega), Weak.of_eq (put_id' (put_id' (put_id' (mk_id' clc_NCmp_1) clc_NCmp_1) clc_NCmp_1) clc_NCmp_1)⟩
    · skip
      have h24r := h24
      try simp only [hce, l1, t0, t1, dflt, val_dig] at h24
      obtain rfl : k = 0 := by omega
      have ej : True := trivial
      have ek : True := trivial
      rw [List.drop_zero, List.drop_zero] at hd
      have hE : val a = val b := by have := congrArg val hd; rwa [val_dig, val_dig] at this
      refine wl_exit ?_
      refine then_e (then_e (blk_e (then_n (wl_seq (wl_reg (asg ?_))))))
      refine st_end nfc_NCmp_0 ?_
      refine then_n (wl_ret ?_)
      first | (rw [cmpN_lt hE]; exact ret1 rfl (.pure rfl)) | (rw [cmpN_gt hE]; exact ret1 rfl (.pure rfl)) | (rw [cmpN_eq hE]; exact ret1 rfl (.pure rfl))
theorem sub_hi {x y : Nat} (h : x < y) (hy : y ≤ 4294967296) : (18446744073709551616 + x - y) % 4294967296 = 4294967296 + x - y ∧ (18446744073709551616 + x - y) / 9223372036854775808 = 1 := by omega
theorem len_trim_le {b : List Nat} (h : Lim b) : (dig (val b)).length ≤ b.length := by
  rw [← trimL_dig h]; unfold trimL; simp; exact Nat.min_le_right _ _
open H0 in
set_option maxHeartbeats 1000000 in
set_option maxRecDepth 100000 in
theorem c_NSubLt (a b : List Nat) (ha : Lim a) (hb : Lim b) (hla : a.length ≤ 1099511627776) (hlb : b.length ≤ 1099511627776) (hlt : val a < val b) : CallP Try.prog 133 [limL a, limL b] (.tup [limL [], iL 7]) := by
  refine callP_of fol Try.func133 rfl (by decide +kernel) (by decide +kernel) (Nat.le_of_ble_eq_true rfl) tm0 ?_
  refine wl_seq (wl_reg (asg (asg ?_)))
  refine st_end nf0 ?_
  refine then_n (wl_seq (wl_seq (wl_reg (mv (mv ?_)))))
  refine st_callP rfl (.cons im0 (.cons im0 .nil)) (c_NCmp _ _ (by first | assumption | exact lim_dig _) (by first | assumption | exact lim_dig _) (by omega) (by omega)) ?_
  refine st_pure rfl (.bin rfl rfl rfl) ?_
  refine st_end nf0 ?_
  refine then_n ?_
  refine wl_cond rfl (fun h15 => ?_) (fun h15 => ?_)
  · skip
    have h15r := h15
    try simp only [hce, l1, t0, t1, dflt, val_dig] at h15
    refine wl_seq (wl_reg (asg (asg ?_)))
    refine st_end nf0 ?_
    refine then_n (wl_ret (then_r ?_))
    exact ret2 rfl (.nil 1) rfl (.pure rfl)
  · skip
    have h15r := h15
    try simp only [hce, l1, t0, t1, dflt, val_dig] at h15
    exfalso; rw [cmpN_lt hlt] at h15; omega
theorem sub_invW {k br : Nat} {a b o : List Nat} (hol : k < o.length) (hbr : br ≤ 1) (hx : a.getD k 0 < 4294967296) (hyb : b.getD k 0 < 4294967296) (hlo : Lim o) (hv : val (o.take k) + val (b.take k) = val (a.take k) + 4294967296 ^ k * br) {y d : Nat}
    (hy : y = br + b.getD k 0) (hd : d = (18446744073709551616 + a.getD k 0 - y) % 18446744073709551616) :
    d / 9223372036854775808 ≤ 1 ∧ Lim (o.set k (d % 4294967296)) ∧ val ((o.set k (d % 4294967296)).take (k + 1)) + val (b.take (k + 1)) = val (a.take (k + 1)) + 4294967296 ^ (k + 1) * (d / 9223372036854775808) := by
  refine ⟨by omega, lim_set hlo _ _ (by omega), ?_⟩
  rcases Nat.lt_or_ge (a.getD k 0) y with h | h
  · have h1 : d % 4294967296 = 4294967296 + a.getD k 0 - y := by omega
    have h2 : d / 9223372036854775808 = 1 := by omega
    rw [h1, h2]
    exact sub_inv1 hol hv hy h (by omega)
  · have h1 : d % 4294967296 = a.getD k 0 - y := by omega
    have h2 : d / 9223372036854775808 = 0 := by omega
    rw [h1, h2]
    exact sub_inv0 hol hv hy h
theorem nfc_NSub_0 {p : Prop} (h : p := by (try simp only [e1, e2, e3, e4, p1, p2, p3, q1, q2, q3, l1, t0, t1, r1, r2, r3, r4, Nat.zero_add, Nat.reduceMul, Nat.reduceAdd, b1, b2, b3, b4, b5, b6, i1, i2, i3, i4, i5, i6, Nat.reduceBEq, dflt]); exact rfl) : p := h
theorem mlc_NSub_1 {p : Prop} (h : p := by first | rfl | (simp only [e1, e2, e3, e4, p1, p2, p3, q1, q2, q3, l1, t0, t1, r1, r2, r3, r4, Nat.zero_add, Nat.reduceMul, Nat.reduceAdd, b1, b2, b3, b4, b5, b6, i1, i2, i3, i4, i5, i6, Nat.reduceBEq, dflt]; done) | (simp only [e1, e2, e3, e4, p1, p2, p3, q1, q2, q3, l1, t0, t1, r1, r2, r3, r4, Nat.zero_add, Nat.reduceMul, Nat.reduceAdd, b1, b2, b3, b4, b5, b6, i1, i2, i3, i4, i5, i6, Nat.reduceBEq, dflt]; rfl) | (simp only [e1, e2, e3, e4, p1, p2, p3, q1, q2, q3, l1, t0, t1, r1, r2, r3, r4, Nat.zero_add, Nat.reduceMul, Nat.reduceAdd, b1, b2, b3, b4, b5, b6, i1, i2, i3, i4, i5, i6, Nat.reduceBEq, dflt]; congr 2 <;> omega)) : p := h
theorem clc_NSub_2 {p : Prop} (h : p := by first | rfl | (simp only [e1, e2, e3, e4, p1, p2, p3, q1, q2, q3, l1, t0, t1, r1, r2, r3, r4, Nat.zero_add, Nat.reduceMul, Nat.reduceAdd, b1, b2, b3, b4, b5, b6, i1, i2, i3, i4, i5, i6, Nat.reduceBEq, dflt]; done) | (simp only [e1, e2, e3, e4, p1, p2, p3, q1, q2, q3, l1, t0, t1, r1, r2, r3, r4, Nat.zero_add, Nat.reduceMul, Nat.reduceAdd, b1, b2, b3, b4, b5, b6, i1, i2, i3, i4, i5, i6, Nat.reduceBEq, dflt]; rfl) | (simp only [e1, e2, e3, e4, p1, p2, p3, q1, q2, q3, l1, t0, t1, r1, r2, r3, r4, Nat.zero_add, Nat.reduceMul, Nat.reduceAdd, b1, b2, b3, b4, b5, b6, i1, i2, i3, i4, i5, i6, Nat.reduceBEq, dflt]; congr 3 <;> omega) | (simp only [e1, e2, e3, e4, p1, p2, p3, q1, q2, q3, l1, t0, t1, r1, r2, r3, r4, Nat.zero_add, Nat.reduceMul, Nat.reduceAdd, b1, b2, b3, b4, b5, b6, i1, i2, i3, i4, i5, i6, Nat.reduceBEq, dflt]; congr 2 <;> omega)) : p := h
namespace H_c_NSub
theorem om {p : Prop} (h : p := by first | (simp only [e1, e2, e3, e4, p1, p2, p3, q1, q2, q3, l1, t0, t1, r1, r2, r3, r4, Nat.zero_add, Nat.reduceMul, Nat.reduceAdd, b1, b2, b3, b4, b5, b6, i1, i2, i3, i4, i5, i6, Nat.reduceBEq, dflt]; omega) | omega) : p := h
end H_c_NSub
open H_c_NSub in
set_option maxHeartbeats 4000000 in
set_option maxRecDepth 100000 in
theorem c_NSub (a b : List Nat) (ha : Lim a) (hb : Lim b) (hla : a.length ≤ 1099511627776) (hlb : b.length ≤ 1099511627776) (hle : val b ≤ val a) : CallP Try.prog 133 [limL a, limL b] (.tup [magL (val a - val b), iL 0]) := by
  have hbl : (dig (val b)).length ≤ a.length := by
    apply dig_length_le; exact Nat.lt_of_le_of_lt hle (val_lt ha)
  refine callP_of fol Try.func133 rfl (by decide +kernel) (by decide +kernel) (Nat.le_of_ble_eq_true rfl) tm0 ?_
  refine wl_seq (wl_reg (asg (asg ?_)))
  refine st_end nfc_NSub_0 ?_
  refine then_n (wl_seq (wl_seq (wl_reg (mv (mv ?_)))))
  refine st_callP rfl (.cons im0 (.cons im0 .nil)) (c_NCmp _ _ (by first | assumption | exact lim_dig _) (by first | assumption | exact lim_dig _) (by omega) (by omega)) ?_
  refine st_pure rfl (.bin rfl rfl rfl) ?_
  refine st_end nfc_NSub_0 ?_
  refine then_n ?_
  refine wl_cond rfl (fun h15 => ?_) (fun h15 => ?_)
  · skip
    have h15r := h15
    try simp only [hce, l1, t0, t1, dflt, val_dig] at h15
    exfalso
    rcases Nat.lt_or_eq_of_le hle with h | h
    · rw [cmpN_gt h] at h15; omega
    · rw [cmpN_eq h.symm] at h15; omega
  · skip
    have h15r := h15
    try simp only [hce, l1, t0, t1, dflt, val_dig] at h15
    refine wl_skip (then_n (wl_seq (wl_reg (mv ?_))))
    refine st_callP rfl (.cons im0 .nil) (c_trimD _ (by first | assumption | exact lim_dig _) (by omega)) ?_
    refine asg ?_
    refine st_end nfc_NSub_0 ?_
    refine then_n (wl_seq (wl_reg (mv ?_)))
    refine st_pure rfl ln32 ?_
    refine st_alloc rfl rfl (.makeM (n := a.length) (m := a.length) u32E Try.underlying32 Z31 T31 B31 mlc_NSub_1 mlc_NSub_1 om om om) ?_
    refine asg ?_
    refine st_end nfc_NSub_0 ?_
    refine then_n (wl_seq (wl_reg (asg ?_)))
    refine st_end nfc_NSub_0 ?_
    refine then_n (wl_seq (wl_seq (wl_reg (mv ?_))))
    refine st_pure rfl ln32 ?_
    refine mv ?_
    refine st_end nfc_NSub_0 ?_
    refine then_n (wl_block ?_)
    refine wl_loop (α := Nat × List Nat × Nat) (fun st L => ((((((((St.mk L.slot (hp [(20, ⟨1, st.2.1.map u32L, true⟩)])).put (some 0) (.list 1 (a.map u32L))).put (some 1) (magL (val b))).put (some 6) (.ref 20 1 0 a.length)).put (some 7) (nU64 st.2.2)).put (some 21) (.list 1 (a.map u32L))).put (some 22) (nI64 a.length)).put (some 23) (nI64 st.1))) (fun st => st.1 ≤ a.length ∧ st.2.1.length = a.length ∧ st.2.2 ≤ 1 ∧ Lim st.2.1 ∧ val (st.2.1.take st.1) + val ((dig (val b)).take st.1) = val (a.take st.1) + 4294967296 ^ st.1 * st.2.2) (fun st => a.length - st.1) (0, List.replicate a.length 0, 0) (show (0) ≤ a.length ∧ (List.replicate a.length 0).length = a.length ∧ (0) ≤ 1 ∧ Lim (List.replicate a.length 0) ∧ val ((List.replicate a.length 0).take (0)) + val ((dig (val b)).take (0)) = val (a.take (0)) + 4294967296 ^ (0) * (0) from ⟨Nat.zero_le _, by simp, by omega, lim_zeros _, by simp [val]⟩) ⟨_, Weak.of_eq (put_id' (put_id' (put_id' (put_id' (put_id' (put_id' (put_id' (mk_id' clc_NSub_2) clc_NSub_2) clc_NSub_2) clc_NSub_2) clc_NSub_2) clc_NSub_2) clc_NSub_2) clc_NSub_2)⟩ ?_
    rintro ⟨k, o, br⟩ L1 hLC
    obtain ⟨hk, hol, hbr, hlo, hv⟩ : k ≤ a.length ∧ o.length = a.length ∧ br ≤ 1 ∧ Lim o ∧ val (o.take k) + val ((dig (val b)).take k) = val (a.take k) + 4294967296 ^ k * br := hLC
    show wpL _ _ _ ((((((((St.mk L1.slot (hp [(20, ⟨1, o.map u32L, true⟩)])).put (some 0) (.list 1 (a.map u32L))).put (some 1) (magL (val b))).put (some 6) (.ref 20 1 0 a.length)).put (some 7) (nU64 br)).put (some 21) (.list 1 (a.map u32L))).put (some 22) (nI64 a.length)).put (some 23) (nI64 k))
    have hxk := getD_lim ha k
    have hyk := getD_dig_lt (val b) k
    refine wl_seq (wl_reg ?_)
    refine st_pure rfl (.bin rfl rfl rfl) ?_
    refine st_end nfc_NSub_0 ?_
    refine then_n (wl_seq ?_)
    refine wl_cond rfl (fun h24 => ?_) (fun h24 => ?_)
    · skip
      have h24r := h24
      try simp only [hce, l1, t0, t1, dflt, val_dig] at h24
      refine wl_skip (then_n (wl_seq (wl_block (wl_seq (wl_reg (mv ?_))))))
      refine st_pure rfl ix32 ?_
      refine st_pure rfl ld31 ?_
      refine asg (asg ?_)
      refine st_end nfc_NSub_0 ?_
      refine then_n (wl_seq (wl_reg (mv (asg ?_))))
      refine st_end nfc_NSub_0 ?_
      refine then_n (wl_seq (wl_seq (wl_reg (mv (mv ?_)))))
      refine st_pure rfl ln32 ?_
      refine st_pure rfl (.bin rfl rfl rfl) ?_
      refine st_end nfc_NSub_0 ?_
      refine then_n ?_
      refine wl_cut (fun L => ∃ (y : Nat) (L1 : St), (y = br + (dig (val b)).getD k 0) ∧ L = (((((((((((St.mk L1.slot (hp [(20, ⟨1, o.map u32L, true⟩)])).put (some 0) (.list 1 (a.map u32L))).put (some 1) (magL (val b))).put (some 6) (.ref 20 1 0 a.length)).put (some 7) (nU64 br)).put (some 21) (.list 1 (a.map u32L))).put (some 22) (nI64 a.length)).put (some 23) (nI64 k)).put (some 9) (u32L (a.getD k 0))).put (some 8) (nI64 k)).put (some 10) (nU64 y))) ?_ ?_
      · skip
        refine wl_cond rfl (fun h32 => ?_) (fun h32 => ?_)
        · skip
          have h32r := h32
          try simp only [hce, l1, t0, t1, dflt, val_dig] at h32
          refine wl_reg (mv (mv (mv ?_)))
          refine st_pure rfl ix32 ?_
          refine st_pure rfl ld31 ?_
          refine st_pure rfl (.cv64 Try.underlying31 Try.underlying116 rfl om) ?_
          refine st_pure rfl (.bin rfl rfl (addU om)) ?_
          refine asg ?_
          refine st_end nfc_NSub_0 ?_
          refine then_n ?_
          exact ⟨br + (dig (val b)).getD k 0, _, rfl, ((put_id' (put_id' (put_id' (put_id' (put_id' (put_id' (put_id' (put_id' (put_id' (put_id' (mk_id' clc_NSub_2) clc_NSub_2) clc_NSub_2) clc_NSub_2) clc_NSub_2) clc_NSub_2) clc_NSub_2) clc_NSub_2) clc_NSub_2) clc_NSub_2) clc_NSub_2)).symm⟩
        · skip
          have h32r := h32
          try simp only [hce, l1, t0, t1, dflt, val_dig] at h32
          refine wl_skip (then_n ?_)
          exact ⟨br, _, by rw [getD_ge _ k (by omega)]; rfl, ((put_id' (put_id' (put_id' (put_id' (put_id' (put_id' (put_id' (put_id' (put_id' (put_id' (mk_id' clc_NSub_2) clc_NSub_2) clc_NSub_2) clc_NSub_2) clc_NSub_2) clc_NSub_2) clc_NSub_2) clc_NSub_2) clc_NSub_2) clc_NSub_2) clc_NSub_2)).symm⟩
      · skip
        rintro _ ⟨y, LC32, hy, rfl⟩
        refine then_n (wl_seq (wl_reg (mv ?_)))
        refine st_pure rfl (.cv64 Try.underlying31 Try.underlying116 rfl om) ?_
        refine mv ?_
        refine st_pure rfl (.bin rfl rfl (subW (by omega))) ?_
        refine asg ?_
        refine st_end nfc_NSub_0 ?_
        refine then_n (wl_seq (wl_reg (mv (mv (mv ?_)))))
        refine st_pure rfl (.cv32 Try.underlying116 Try.underlying31 rfl) ?_
        refine st_pure rfl ix32 ?_
        refine st_store rfl (by exact .storeM u32E rfl rfl rfl T31 om) ?_
        refine st_end nfc_NSub_0 ?_
        refine then_n (wl_reg (mv ?_))
        refine st_pure rfl (.sh rfl rfl shr63) ?_
        refine asg ?_
        refine st_end nfc_NSub_0 ?_
        refine blk_n (then_n (wl_reg ?_))
        refine st_pure rfl (.bin rfl rfl (add64 om om)) ?_
        refine mv ?_
        refine st_end nfc_NSub_0 ?_
        refine then_n ?_
        exact ⟨(k + 1, o.set k ((18446744073709551616 + a.getD k 0 - y) % 18446744073709551616 % 4294967296), (18446744073709551616 + a.getD k 0 - y) % 18446744073709551616 / 9223372036854775808), _, (show (k + 1) ≤ a.length ∧ (o.set k ((18446744073709551616 + a.getD k 0 - y) % 18446744073709551616 % 4294967296)).length = a.length ∧ ((18446744073709551616 + a.getD k 0 - y) % 18446744073709551616 / 9223372036854775808) ≤ 1 ∧ Lim (o.set k ((18446744073709551616 + a.getD k 0 - y) % 18446744073709551616 % 4294967296)) ∧ val ((o.set k ((18446744073709551616 + a.getD k 0 - y) % 18446744073709551616 % 4294967296)).take (k + 1)) + val ((dig (val b)).take (k + 1)) = val (a.take (k + 1)) + 4294967296 ^ (k + 1) * ((18446744073709551616 + a.getD k 0 - y) % 18446744073709551616 / 9223372036854775808) from ⟨by omega, by simp [hol], sub_invW (by omega) hbr hxk hyk hlo hv hy rfl⟩), (show a.length - (k + 1) < a.length - k from by omega), Weak.of_eq (put_id' (put_id' (put_id' (put_id' (put_id' (put_id' (put_id' (mk_id' clc_NSub_2) clc_NSub_2) clc_NSub_2) clc_NSub_2) clc_NSub_2) clc_NSub_2) clc_NSub_2) clc_NSub_2)⟩
    · skip
      have h24r := h24
      try simp only [hce, l1, t0, t1, dflt, val_dig] at h24
      obtain rfl : k = a.length := by omega
      refine wl_exit ?_
      refine then_e (then_e (blk_e (then_n (wl_seq (wl_reg (mv ?_))))))
      refine st_callPf [20] rfl rfl (.cons im1 .nil) (c_trimD _ (by first | assumption | exact lim_dig _) (by omega)) ?_
      refine asg (asg ?_)
      refine st_end nfc_NSub_0 ?_
      refine then_n (wl_ret ?_)
      have e := sub_end ha hlo hol hbl (by rw [val_dig]; exact hle) hv
      rw [trimL_dig hlo, val_dig] at e
      have e2 := congrArg val e
      rw [val_dig, val_dig] at e2
      rw [← e2]
      exact ret2 rfl (.pure (magL_pure _)) rfl (.pure rfl)
end Go.Proofs.Ythhdcfhaldcheaa
