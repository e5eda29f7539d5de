/- The reference magnitudes: products, division by a limb, bits. -/
import Derived.Test.YthhdcfhaldcheaaR1
set_option linter.unusedVariables false
set_option linter.unusedSimpArgs false
namespace Go.Proofs.Ythhdcfhaldcheaa
open Go.Lg
theorem blen_half {x : Nat} (h : 0 < x) : blen x = blen (x / 2 ^ 1) + 1 := by
  have := blen_div (n := x) (k := 1)
  rcases Nat.lt_or_ge x 2 with h1 | h1
  · obtain rfl : x = 1 := by omega
    rfl
  · rw [this (by omega)]; omega
theorem nfc_FMul_0 {p : Prop} (h : p := by (try simp only [e1, e2, e3, e4, p1, p2, p3, q1, q2, q3, l1, t0, t1, r1, r2, r3, r4, Nat.zero_add, Nat.reduceMul, Nat.reduceAdd, b1, b2, b3, b4, b5, b6, i1, i2, i3, i4, i5, i6, Nat.reduceBEq, dflt, eij]); exact rfl) : p := h
theorem mlc_FMul_1 {p : Prop} (h : p := by first | rfl | (simp only [e1, e2, e3, e4, p1, p2, p3, q1, q2, q3, l1, t0, t1, r1, r2, r3, r4, Nat.zero_add, Nat.reduceMul, Nat.reduceAdd, b1, b2, b3, b4, b5, b6, i1, i2, i3, i4, i5, i6, Nat.reduceBEq, dflt, eij]; done) | (simp only [e1, e2, e3, e4, p1, p2, p3, q1, q2, q3, l1, t0, t1, r1, r2, r3, r4, Nat.zero_add, Nat.reduceMul, Nat.reduceAdd, b1, b2, b3, b4, b5, b6, i1, i2, i3, i4, i5, i6, Nat.reduceBEq, dflt, eij]; rfl) | (simp only [e1, e2, e3, e4, p1, p2, p3, q1, q2, q3, l1, t0, t1, r1, r2, r3, r4, Nat.zero_add, Nat.reduceMul, Nat.reduceAdd, b1, b2, b3, b4, b5, b6, i1, i2, i3, i4, i5, i6, Nat.reduceBEq, dflt, eij]; congr 2 <;> omega)) : p := h
theorem clc_FMul_2 {p : Prop} (h : p := by first | rfl | (simp only [e1, e2, e3, e4, p1, p2, p3, q1, q2, q3, l1, t0, t1, r1, r2, r3, r4, Nat.zero_add, Nat.reduceMul, Nat.reduceAdd, b1, b2, b3, b4, b5, b6, i1, i2, i3, i4, i5, i6, Nat.reduceBEq, dflt, eij]; done) | (simp only [e1, e2, e3, e4, p1, p2, p3, q1, q2, q3, l1, t0, t1, r1, r2, r3, r4, Nat.zero_add, Nat.reduceMul, Nat.reduceAdd, b1, b2, b3, b4, b5, b6, i1, i2, i3, i4, i5, i6, Nat.reduceBEq, dflt, eij]; rfl) | (simp only [e1, e2, e3, e4, p1, p2, p3, q1, q2, q3, l1, t0, t1, r1, r2, r3, r4, Nat.zero_add, Nat.reduceMul, Nat.reduceAdd, b1, b2, b3, b4, b5, b6, i1, i2, i3, i4, i5, i6, Nat.reduceBEq, dflt, eij]; congr 3 <;> omega) | (simp only [e1, e2, e3, e4, p1, p2, p3, q1, q2, q3, l1, t0, t1, r1, r2, r3, r4, Nat.zero_add, Nat.reduceMul, Nat.reduceAdd, b1, b2, b3, b4, b5, b6, i1, i2, i3, i4, i5, i6, Nat.reduceBEq, dflt, eij]; congr 2 <;> omega)) : p := h
namespace H_c_FMul
theorem om {p : Prop} (h : p := by first | (simp only [e1, e2, e3, e4, p1, p2, p3, q1, q2, q3, l1, t0, t1, r1, r2, r3, r4, Nat.zero_add, Nat.reduceMul, Nat.reduceAdd, b1, b2, b3, b4, b5, b6, i1, i2, i3, i4, i5, i6, Nat.reduceBEq, dflt, eij]; omega) | omega) : p := h
end H_c_FMul
open H_c_FMul in
set_option maxHeartbeats 4000000 in
set_option maxRecDepth 100000 in
theorem c_FMul (m n : Nat) (hla : (dig m).length ≤ 1099511627776) (hlb : (dig n).length ≤ 1099511627776) : CallP Try.prog 76 [magL m, magL n] (magL (m * n)) := by
  refine callP_of fol Try.func76 rfl (by decide +kernel) (by decide +kernel) (Nat.le_of_ble_eq_true rfl) tm0 ?_
  have eij : True := trivial
  refine wl_seq (wl_reg (asg ?_))
  refine st_end nfc_FMul_0 ?_
  refine then_n (wl_seq (wl_reg (mv ?_)))
  refine st_pure rfl ln32 ?_
  refine mv ?_
  refine st_pure rfl ln32 ?_
  refine st_pure rfl (.bin rfl rfl (add64 om om)) ?_
  refine st_alloc rfl rfl (.makeM (n := (dig m).length + (dig n).length) (m := (dig m).length + (dig n).length) u32E Try.underlying32 Z31 T31 B31 mlc_FMul_1 mlc_FMul_1 om om om) ?_
  refine asg ?_
  refine st_end nfc_FMul_0 ?_
  refine then_n (wl_seq (wl_seq (wl_reg (asg ?_))))
  refine st_end nfc_FMul_0 ?_
  refine then_n (wl_block ?_)
  refine wl_loop (α := Nat × List Nat) (fun st L => (((((St.mk L.slot (hp [(14, ⟨1, st.2.map u32L, true⟩)])).put (some 0) (magL m)).put (some 1) (magL n)).put (some 5) (.ref 14 1 0 ((dig m).length + (dig n).length))).put (some 6) (nI64 st.1))) (fun st => st.1 ≤ (dig m).length ∧ st.2.length = (dig m).length + (dig n).length ∧ Lim st.2 ∧ val st.2 = val ((dig m).take st.1) * val (dig n) ∧ ∀ p, st.1 + (dig n).length ≤ p → st.2.getD p 0 = 0) (fun st => (dig m).length - st.1) (0, List.replicate ((dig m).length + (dig n).length) 0) (show (0) ≤ (dig m).length ∧ (List.replicate ((dig m).length + (dig n).length) 0).length = (dig m).length + (dig n).length ∧ Lim (List.replicate ((dig m).length + (dig n).length) 0) ∧ val (List.replicate ((dig m).length + (dig n).length) 0) = val ((dig m).take (0)) * val (dig n) ∧ ∀ p, (0) + (dig n).length ≤ p → (List.replicate ((dig m).length + (dig n).length) 0).getD p 0 = 0 from ⟨Nat.zero_le _, by simp, lim_zeros _, by simp [val, val_zeros], fun p _ => getD_zeros _ _⟩) ⟨_, Weak.of_eq (put_id' (put_id' (put_id' (put_id' (mk_id' clc_FMul_2) clc_FMul_2) clc_FMul_2) clc_FMul_2) clc_FMul_2)⟩ ?_
  rintro ⟨i, o⟩ L1 hLC
  obtain ⟨hi, hol, hlo, hv, hz⟩ : i ≤ (dig m).length ∧ o.length = (dig m).length + (dig n).length ∧ Lim o ∧ val o = val ((dig m).take i) * val (dig n) ∧ ∀ p, i + (dig n).length ≤ p → o.getD p 0 = 0 := hLC
  show wpL _ _ _ (((((St.mk L1.slot (hp [(14, ⟨1, o.map u32L, true⟩)])).put (some 0) (magL m)).put (some 1) (magL n)).put (some 5) (.ref 14 1 0 ((dig m).length + (dig n).length))).put (some 6) (nI64 i))
  have hxi := getD_dig_lt m i
  refine wl_seq (wl_seq (wl_reg (mv (mv ?_))))
  refine st_pure rfl ln32 ?_
  refine st_pure rfl (.bin rfl rfl rfl) ?_
  refine st_end nfc_FMul_0 ?_
  refine then_n ?_
  refine wl_cond rfl (fun h18 => ?_) (fun h18 => ?_)
  · skip
    have h18r := h18
    try simp only [hce, l1, t0, t1, dflt, val_dig] at h18
    refine wl_skip (then_n (wl_seq (wl_block (wl_seq (wl_reg (asg ?_))))))
    refine st_end nfc_FMul_0 ?_
    refine then_n (wl_seq (wl_seq (wl_reg (asg ?_))))
    refine st_end nfc_FMul_0 ?_
    refine then_n (wl_block ?_)
    refine wl_loop (α := Nat × List Nat × Nat) (fun st L => (((((((St.mk L.slot (hp [(14, ⟨1, st.2.1.map u32L, true⟩)])).put (some 0) (magL m)).put (some 1) (magL n)).put (some 5) (.ref 14 1 0 ((dig m).length + (dig n).length))).put (some 6) (nI64 i)).put (some 7) (nU64 st.2.2)).put (some 8) (nI64 st.1))) (fun st => st.1 ≤ (dig n).length ∧ st.2.1.length = (dig m).length + (dig n).length ∧ Lim st.2.1 ∧ st.2.2 < 4294967296 ∧ val st.2.1 + 4294967296 ^ (i + st.1) * st.2.2 = val ((dig m).take i) * val (dig n) + 4294967296 ^ i * ((dig m).getD i 0 * val ((dig n).take st.1)) ∧ ∀ p, i + (dig n).length ≤ p → st.2.1.getD p 0 = 0) (fun st => (dig n).length - st.1) (0, o, 0) (show (0) ≤ (dig n).length ∧ (o).length = (dig m).length + (dig n).length ∧ Lim (o) ∧ (0) < 4294967296 ∧ val (o) + 4294967296 ^ (i + (0)) * (0) = val ((dig m).take i) * val (dig n) + 4294967296 ^ i * ((dig m).getD i 0 * val ((dig n).take (0))) ∧ ∀ p, i + (dig n).length ≤ p → (o).getD p 0 = 0 from ⟨Nat.zero_le _, hol, hlo, by omega, by rw [hv]; simp [val], hz⟩) ⟨_, Weak.of_eq (put_id' (put_id' (put_id' (put_id' (put_id' (put_id' (mk_id' clc_FMul_2) clc_FMul_2) clc_FMul_2) clc_FMul_2) clc_FMul_2) clc_FMul_2) clc_FMul_2)⟩ ?_
    rintro ⟨j, o, c⟩ L2 hLC
    obtain ⟨hj, hol, hlo, hc, hv, hz⟩ : j ≤ (dig n).length ∧ o.length = (dig m).length + (dig n).length ∧ Lim o ∧ c < 4294967296 ∧ val o + 4294967296 ^ (i + j) * c = val ((dig m).take i) * val (dig n) + 4294967296 ^ i * ((dig m).getD i 0 * val ((dig n).take j)) ∧ ∀ p, i + (dig n).length ≤ p → o.getD p 0 = 0 := hLC
    show wpL _ _ _ (((((((St.mk L2.slot (hp [(14, ⟨1, o.map u32L, true⟩)])).put (some 0) (magL m)).put (some 1) (magL n)).put (some 5) (.ref 14 1 0 ((dig m).length + (dig n).length))).put (some 6) (nI64 i)).put (some 7) (nU64 c)).put (some 8) (nI64 j))
    have hyj := getD_dig_lt n j
    have hzj := getD_lim hlo (i + j)
    have hs := mul_s_lt hc hxi hyj hzj
    have eij : ((i : Int) + (j : Int)).toNat = i + j := by omega
    refine wl_seq (wl_seq (wl_reg (mv (mv ?_))))
    refine st_pure rfl ln32 ?_
    refine st_pure rfl (.bin rfl rfl rfl) ?_
    refine st_end nfc_FMul_0 ?_
    refine then_n ?_
    refine wl_cond rfl (fun h24 => ?_) (fun h24 => ?_)
    · skip
      have h24r := h24
      try simp only [hce, l1, t0, t1, dflt, val_dig] at h24
      refine wl_skip (then_n (wl_seq (wl_block (wl_seq ?_))))
      refine wl_regD 22 (by decide +kernel) ?_
      refine mv (mv (mv ?_))
      refine st_pure rfl ix32 ?_
      refine st_pure rfl ld31 ?_
      refine st_pure rfl (.cv64 Try.underlying31 Try.underlying116 rfl om) ?_
      refine mv (mv ?_)
      refine st_pure rfl ix32 ?_
      refine st_pure rfl ld31 ?_
      refine st_pure rfl (.cv64 Try.underlying31 Try.underlying116 rfl om) ?_
      refine st_pure rfl (.bin rfl rfl (mulU om)) ?_
      refine mv (mv (mv ?_))
      refine st_pure rfl (.bin rfl rfl (add64 om om)) ?_
      refine st_pure rfl ix32 ?_
      refine st_pure rfl ld31 ?_
      refine st_pure rfl (.cv64 Try.underlying31 Try.underlying116 rfl om) ?_
      refine st_pure rfl (.bin rfl rfl (addU om)) ?_
      refine st_pure rfl (.bin rfl rfl (addU om)) ?_
      refine asg ?_
      refine st_end nfc_FMul_0 ?_
      refine then_n (wl_seq (wl_reg (mv (mv (mv ?_)))))
      refine st_pure rfl (.bin rfl rfl (add64 om om)) ?_
      refine mv ?_
      refine st_pure rfl (.cv32 Try.underlying116 Try.underlying31 rfl) ?_
      refine st_pure rfl ix32 ?_
      refine st_store rfl (by exact .storeM u32E rfl rfl rfl T31 om) ?_
      refine st_end nfc_FMul_0 ?_
      refine then_n (wl_reg (mv ?_))
      refine st_pure rfl (.sh rfl rfl shr32) ?_
      refine asg ?_
      refine st_end nfc_FMul_0 ?_
      refine blk_n (then_n (wl_reg (mv ?_)))
      refine st_pure rfl (.bin rfl rfl (add64 om om)) ?_
      refine asg ?_
      refine st_end nfc_FMul_0 ?_
      refine then_n ?_
      exact ⟨(j + 1, o.set (i + j) ((c + ((dig m).getD i 0 * (dig n).getD j 0 + o.getD (i + j) 0)) % 4294967296), (c + ((dig m).getD i 0 * (dig n).getD j 0 + o.getD (i + j) 0)) / 4294967296), _, (show (j + 1) ≤ (dig n).length ∧ (o.set (i + j) ((c + ((dig m).getD i 0 * (dig n).getD j 0 + o.getD (i + j) 0)) % 4294967296)).length = (dig m).length + (dig n).length ∧ Lim (o.set (i + j) ((c + ((dig m).getD i 0 * (dig n).getD j 0 + o.getD (i + j) 0)) % 4294967296)) ∧ ((c + ((dig m).getD i 0 * (dig n).getD j 0 + o.getD (i + j) 0)) / 4294967296) < 4294967296 ∧ val (o.set (i + j) ((c + ((dig m).getD i 0 * (dig n).getD j 0 + o.getD (i + j) 0)) % 4294967296)) + 4294967296 ^ (i + (j + 1)) * ((c + ((dig m).getD i 0 * (dig n).getD j 0 + o.getD (i + j) 0)) / 4294967296) = val ((dig m).take i) * val (dig n) + 4294967296 ^ i * ((dig m).getD i 0 * val ((dig n).take (j + 1))) ∧ ∀ p, i + (dig n).length ≤ p → (o.set (i + j) ((c + ((dig m).getD i 0 * (dig n).getD j 0 + o.getD (i + j) 0)) % 4294967296)).getD p 0 = 0 from ⟨by omega, by simp [hol], lim_set hlo _ _ (Nat.mod_lt _ (by omega)), by omega, mul_inv (by omega) hv rfl, zeros_set (by omega) hz⟩), (show (dig n).length - (j + 1) < (dig n).length - j from by omega), Weak.of_eq (put_id' (put_id' (put_id' (put_id' (put_id' (put_id' (mk_id' clc_FMul_2) clc_FMul_2) clc_FMul_2) clc_FMul_2) clc_FMul_2) clc_FMul_2) clc_FMul_2)⟩
    · skip
      have h24r := h24
      try simp only [hce, l1, t0, t1, dflt, val_dig] at h24
      obtain rfl : j = (dig n).length := by omega
      have eij2 : ((i : Int) + ((dig n).length : Int)).toNat = i + (dig n).length := by omega
      refine wl_exit ?_
      refine then_e (then_e (blk_e (then_n (wl_reg (mv (mv (mv ?_)))))))
      refine st_pure rfl ln32 ?_
      refine st_pure rfl (.bin rfl rfl (add64 om om)) ?_
      refine mv ?_
      refine st_pure rfl (.cv32 Try.underlying116 Try.underlying31 rfl) ?_
      refine st_pure rfl ix32 ?_
      refine st_store rfl (by exact .storeM u32E rfl rfl rfl T31 om) ?_
      refine st_end nfc_FMul_0 ?_
      refine blk_n (then_n (wl_reg (mv ?_)))
      refine st_pure rfl (.bin rfl rfl (add64 om om)) ?_
      refine asg ?_
      refine st_end nfc_FMul_0 ?_
      refine then_n ?_
      exact ⟨(i + 1, o.set (i + (dig n).length) (c % 4294967296)), _, (show (i + 1) ≤ (dig m).length ∧ (o.set (i + (dig n).length) (c % 4294967296)).length = (dig m).length + (dig n).length ∧ Lim (o.set (i + (dig n).length) (c % 4294967296)) ∧ val (o.set (i + (dig n).length) (c % 4294967296)) = val ((dig m).take (i + 1)) * val (dig n) ∧ ∀ p, (i + 1) + (dig n).length ≤ p → (o.set (i + (dig n).length) (c % 4294967296)).getD p 0 = 0 from ⟨by omega, by simp [hol], lim_set hlo _ _ (Nat.mod_lt _ (by omega)), by rw [Nat.mod_eq_of_lt hc]; exact mul_row (by omega) (by omega) (hz _ (Nat.le_refl _)) rfl rfl hv, zeros_end hz⟩), (show (dig m).length - (i + 1) < (dig m).length - i from by omega), Weak.of_eq (put_id' (put_id' (put_id' (put_id' (mk_id' clc_FMul_2) clc_FMul_2) clc_FMul_2) clc_FMul_2) clc_FMul_2)⟩
  · skip
    have h18r := h18
    try simp only [hce, l1, t0, t1, dflt, val_dig] at h18
    obtain rfl : i = (dig m).length := by omega
    refine wl_exit ?_
    refine then_e (then_e (blk_e (then_n (wl_seq (wl_reg (mv ?_))))))
    refine st_callPf [14] rfl rfl (.cons im1 .nil) (c_FTrim _ (by first | assumption | exact lim_dig _) (by first | omega | (simp; done) | (simp; omega))) ?_
    refine asg ?_
    refine st_end nfc_FMul_0 ?_
    refine then_n (wl_ret ?_)
    rw [List.take_length, val_dig, val_dig] at hv
    rw [← hv]
    exact ret1 rfl (by first | exact .pure rfl | exact .pure (limL_pure _) | exact .pure (magL_pure _) | exact .pure (ratE.pure _) | exact .pure (pure_lst u32E _ _) | exact .pure (pure_lst ratE _ _))
open H0 in
set_option maxHeartbeats 1000000 in
set_option maxRecDepth 100000 in
theorem c_Ftimes (m d : Nat) (hla : (dig m).length ≤ 549755813888) (hd : d < 4294967296) : CallP Try.prog 142 [magL m, nU32 d] (magL (m * d)) := by
  have hld : (dig d).length ≤ 1 := dig_len_le1.2 hd
  refine callP_of fol Try.func142 rfl (by decide +kernel) (by decide +kernel) (Nat.le_of_ble_eq_true rfl) tm0 ?_
  refine wl_seq (wl_reg (asg ?_))
  refine st_end nf0 ?_
  refine then_n (wl_seq (wl_reg (mv (mv ?_))))
  refine st_pure rfl (.cv64 Try.underlying31 Try.underlying116 rfl om) ?_
  refine st_callP rfl (.cons im0 .nil) (c_FOf _ (by omega)) ?_
  refine st_callP rfl (.cons im0 (.cons im0 .nil)) (c_FMul _ _ (by omega) (by omega)) ?_
  refine asg ?_
  refine st_end nf0 ?_
  refine then_n (wl_ret ?_)
  exact ret1 rfl (by first | exact .pure rfl | exact .pure (limL_pure _) | exact .pure (magL_pure _) | exact .pure (ratE.pure _) | exact .pure (pure_lst u32E _ _) | exact .pure (pure_lst ratE _ _))
theorem nfc_FbyLimb_0 {p : Prop} (h : p := by (try simp only [e1, e2, e3, e4, p1, p2, p3, q1, q2, q3, l1, t0, t1, r1, r2, r3, r4, Nat.zero_add, Nat.reduceMul, Nat.reduceAdd, b1, b2, b3, b4, b5, b6, i1, i2, i3, i4, i5, i6, Nat.reduceBEq, dflt, ej, ek]); exact rfl) : p := h
theorem mlc_FbyLimb_1 {p : Prop} (h : p := by first | rfl | (simp only [e1, e2, e3, e4, p1, p2, p3, q1, q2, q3, l1, t0, t1, r1, r2, r3, r4, Nat.zero_add, Nat.reduceMul, Nat.reduceAdd, b1, b2, b3, b4, b5, b6, i1, i2, i3, i4, i5, i6, Nat.reduceBEq, dflt, ej, ek]; done) | (simp only [e1, e2, e3, e4, p1, p2, p3, q1, q2, q3, l1, t0, t1, r1, r2, r3, r4, Nat.zero_add, Nat.reduceMul, Nat.reduceAdd, b1, b2, b3, b4, b5, b6, i1, i2, i3, i4, i5, i6, Nat.reduceBEq, dflt, ej, ek]; rfl) | (simp only [e1, e2, e3, e4, p1, p2, p3, q1, q2, q3, l1, t0, t1, r1, r2, r3, r4, Nat.zero_add, Nat.reduceMul, Nat.reduceAdd, b1, b2, b3, b4, b5, b6, i1, i2, i3, i4, i5, i6, Nat.reduceBEq, dflt, ej, ek]; congr 2 <;> omega)) : p := h
theorem clc_FbyLimb_2 {p : Prop} (h : p := by first | rfl | (simp only [e1, e2, e3, e4, p1, p2, p3, q1, q2, q3, l1, t0, t1, r1, r2, r3, r4, Nat.zero_add, Nat.reduceMul, Nat.reduceAdd, b1, b2, b3, b4, b5, b6, i1, i2, i3, i4, i5, i6, Nat.reduceBEq, dflt, ej, ek]; done) | (simp only [e1, e2, e3, e4, p1, p2, p3, q1, q2, q3, l1, t0, t1, r1, r2, r3, r4, Nat.zero_add, Nat.reduceMul, Nat.reduceAdd, b1, b2, b3, b4, b5, b6, i1, i2, i3, i4, i5, i6, Nat.reduceBEq, dflt, ej, ek]; rfl) | (simp only [e1, e2, e3, e4, p1, p2, p3, q1, q2, q3, l1, t0, t1, r1, r2, r3, r4, Nat.zero_add, Nat.reduceMul, Nat.reduceAdd, b1, b2, b3, b4, b5, b6, i1, i2, i3, i4, i5, i6, Nat.reduceBEq, dflt, ej, ek]; congr 3 <;> omega) | (simp only [e1, e2, e3, e4, p1, p2, p3, q1, q2, q3, l1, t0, t1, r1, r2, r3, r4, Nat.zero_add, Nat.reduceMul, Nat.reduceAdd, b1, b2, b3, b4, b5, b6, i1, i2, i3, i4, i5, i6, Nat.reduceBEq, dflt, ej, ek]; congr 2 <;> omega)) : p := h
namespace H_c_FbyLimb
theorem om {p : Prop} (h : p := by first | (simp only [e1, e2, e3, e4, p1, p2, p3, q1, q2, q3, l1, t0, t1, r1, r2, r3, r4, Nat.zero_add, Nat.reduceMul, Nat.reduceAdd, b1, b2, b3, b4, b5, b6, i1, i2, i3, i4, i5, i6, Nat.reduceBEq, dflt, ej, ek]; omega) | omega) : p := h
end H_c_FbyLimb
open H_c_FbyLimb in
set_option maxHeartbeats 4000000 in
set_option maxRecDepth 100000 in
theorem c_FbyLimb (m d : Nat) (hla : (dig m).length ≤ 1099511627776) (hd0 : 0 < d) (hd : d < 4294967296) : CallP Try.prog 120 [magL m, nU32 d] (.tup [magL (m / d), nU32 (m % d)]) := by
  refine callP_of fol Try.func120 rfl (by decide +kernel) (by decide +kernel) (Nat.le_of_ble_eq_true rfl) tm0 ?_
  have ej : True := trivial
  have ek : True := trivial
  refine wl_seq (wl_reg (asg (asg ?_)))
  refine st_end nfc_FbyLimb_0 ?_
  refine then_n (wl_seq (wl_reg (mv ?_)))
  refine st_pure rfl ln32 ?_
  refine st_alloc rfl rfl (.makeM (n := (dig m).length) (m := (dig m).length) u32E Try.underlying32 Z31 T31 B31 mlc_FbyLimb_1 mlc_FbyLimb_1 om om om) ?_
  refine asg ?_
  refine st_end nfc_FbyLimb_0 ?_
  refine then_n (wl_seq (wl_reg (asg ?_)))
  refine st_end nfc_FbyLimb_0 ?_
  refine then_n (wl_seq (wl_seq (wl_reg (mv ?_))))
  refine st_pure rfl ln32 ?_
  refine st_pure rfl (.bin rfl rfl (sub64 om om)) ?_
  refine asg ?_
  refine st_end nfc_FbyLimb_0 ?_
  refine then_n (wl_block ?_)
  refine wl_loop (α := Nat × List Nat × Nat) (fun st L => ((((((St.mk L.slot (hp [(11, ⟨1, st.2.1.map u32L, true⟩)])).put (some 0) (magL m)).put (some 1) (nU32 d)).put (some 6) (.ref 11 1 0 (dig m).length)).put (some 7) (nU64 st.2.2)).put (some 8) (iL ((st.1 : Int) - 1)))) (fun st => st.1 ≤ (dig m).length ∧ st.2.1.length = (dig m).length ∧ Lim st.2.1 ∧ st.2.2 < d ∧ val (st.2.1.drop st.1) * d + st.2.2 = val ((dig m).drop st.1)) (fun st => st.1) ((dig m).length, List.replicate (dig m).length 0, 0) (show ((dig m).length) ≤ (dig m).length ∧ (List.replicate (dig m).length 0).length = (dig m).length ∧ Lim (List.replicate (dig m).length 0) ∧ (0) < d ∧ val ((List.replicate (dig m).length 0).drop ((dig m).length)) * d + (0) = val ((dig m).drop ((dig m).length)) from ⟨Nat.le_refl _, by simp, lim_zeros _, hd0, by simp [val]⟩) ⟨_, Weak.of_eq (put_id' (put_id' (put_id' (put_id' (put_id' (mk_id' clc_FbyLimb_2) clc_FbyLimb_2) clc_FbyLimb_2) clc_FbyLimb_2) clc_FbyLimb_2) clc_FbyLimb_2)⟩ ?_
  rintro ⟨k, q, r⟩ L1 hLC
  obtain ⟨hk, hql, hlq, hr, hv⟩ : k ≤ (dig m).length ∧ q.length = (dig m).length ∧ Lim q ∧ r < d ∧ val (q.drop k) * d + r = val ((dig m).drop k) := hLC
  show wpL _ _ _ ((((((St.mk L1.slot (hp [(11, ⟨1, q.map u32L, true⟩)])).put (some 0) (magL m)).put (some 1) (nU32 d)).put (some 6) (.ref 11 1 0 (dig m).length)).put (some 7) (nU64 r)).put (some 8) (iL ((k : Int) - 1)))
  refine wl_seq (wl_seq (wl_reg (mv ?_)))
  refine st_pure rfl (.bin rfl rfl rfl) ?_
  refine st_end nfc_FbyLimb_0 ?_
  refine then_n ?_
  refine wl_cond rfl (fun h16 => ?_) (fun h16 => ?_)
  · skip
    have h16r := h16
    try simp only [hce, l1, t0, t1, dflt, val_dig] at h16
    obtain ⟨j, rfl⟩ : ∃ j, k = j + 1 := ⟨k - 1, by omega⟩
    have ej : (((j + 1 : Nat) : Int) - 1).toNat = j := by omega
    have ek : (((j + 1 : Nat) : Int) - 1) = j := by omega
    have hxj := getD_dig_lt m j
    refine wl_skip (then_n (wl_seq (wl_block (wl_seq (wl_reg (mv ?_))))))
    refine st_pure rfl (.sh rfl rfl (shl32 om)) ?_
    refine mv (mv ?_)
    refine st_pure rfl ix32 ?_
    refine st_pure rfl ld31 ?_
    refine st_pure rfl (.cv64 Try.underlying31 Try.underlying116 rfl om) ?_
    refine st_pure rfl (.bin rfl rfl (orU om om)) ?_
    refine asg ?_
    refine st_end nfc_FbyLimb_0 ?_
    refine then_n (wl_seq (wl_reg (mv (mv (mv (mv ?_))))))
    refine st_pure rfl (.cv64 Try.underlying31 Try.underlying116 rfl om) ?_
    refine st_pure rfl (.bin rfl rfl (quoU (by omega) (by omega))) ?_
    refine st_pure rfl (.cv32 Try.underlying116 Try.underlying31 rfl) ?_
    refine st_pure rfl ix32 ?_
    refine st_store rfl (by exact .storeM u32E rfl rfl rfl T31 om) ?_
    refine st_end nfc_FbyLimb_0 ?_
    refine then_n (wl_reg (mv (mv ?_)))
    refine st_pure rfl (.cv64 Try.underlying31 Try.underlying116 rfl om) ?_
    refine st_pure rfl (.bin rfl rfl (remU om)) ?_
    refine asg ?_
    refine st_end nfc_FbyLimb_0 ?_
    refine blk_n (then_n (wl_reg (mv ?_)))
    refine st_pure rfl (.bin rfl rfl (sub64 om om)) ?_
    refine asg ?_
    refine st_end nfc_FbyLimb_0 ?_
    refine then_n ?_
    exact ⟨(j, q.set j ((r * 4294967296 + (dig m).getD j 0) / d % 4294967296), (r * 4294967296 + (dig m).getD j 0) % d), _, (show (j) ≤ (dig m).length ∧ (q.set j ((r * 4294967296 + (dig m).getD j 0) / d % 4294967296)).length = (dig m).length ∧ Lim (q.set j ((r * 4294967296 + (dig m).getD j 0) / d % 4294967296)) ∧ ((r * 4294967296 + (dig m).getD j 0) % d) < d ∧ val ((q.set j ((r * 4294967296 + (dig m).getD j 0) / d % 4294967296)).drop (j)) * d + ((r * 4294967296 + (dig m).getD j 0) % d) = val ((dig m).drop (j)) from ⟨by omega, by simp [hql], lim_set hlq _ _ (Nat.mod_lt _ (by omega)), Nat.mod_lt _ hd0, by rw [Nat.mod_eq_of_lt (small_lt hr hxj)]; exact small_inv (by omega) hql hv rfl⟩), (show (j) < j + 1 from by omega), Weak.of_eq (put_id' (put_id' (put_id' (put_id' (put_id' (mk_id' clc_FbyLimb_2) clc_FbyLimb_2) clc_FbyLimb_2) clc_FbyLimb_2) clc_FbyLimb_2) clc_FbyLimb_2)⟩
  · skip
    have h16r := h16
    try simp only [hce, l1, t0, t1, dflt, val_dig] at h16
    obtain rfl : k = 0 := by omega
    refine wl_exit ?_
    refine then_e (then_e (blk_e (then_n (wl_seq (wl_reg (mv ?_))))))
    refine st_callPf [11] rfl rfl (.cons im1 .nil) (c_FTrim _ (by first | assumption | exact lim_dig _) (by first | omega | (simp; done) | (simp; omega))) ?_
    refine mv ?_
    refine st_pure rfl (.cv32 Try.underlying116 Try.underlying31 rfl) ?_
    refine asg (asg ?_)
    refine st_end nfc_FbyLimb_0 ?_
    refine then_n (wl_ret ?_)
    obtain ⟨E1, E2⟩ := small_end hd0 hr hlq hv
    rw [trimL_dig hlq] at E1
    have E3 := congrArg val E1
    rw [val_dig, val_dig, val_dig] at E3
    rw [val_dig] at E2
    rw [← E3, ← E2]
    have E4 : r % 4294967296 = r := Nat.mod_eq_of_lt (by omega)
    refine ret2 rfl (.pure (magL_pure _)) rfl ?_
    show Imm _ (nU32 (r % 4294967296)) (nU32 r)
    rw [E4]
    exact .pure rfl
theorem nfc_FValid_0 {p : Prop} (h : p := by (try simp only [e1, e2, e3, e4, p1, p2, p3, q1, q2, q3, l1, t0, t1, r1, r2, r3, r4, Nat.zero_add, Nat.reduceMul, Nat.reduceAdd, b1, b2, b3, b4, b5, b6, i1, i2, i3, i4, i5, i6, Nat.reduceBEq, dflt, ej]); exact rfl) : p := h
namespace H_c_FValid
theorem om {p : Prop} (h : p := by first | (simp only [e1, e2, e3, e4, p1, p2, p3, q1, q2, q3, l1, t0, t1, r1, r2, r3, r4, Nat.zero_add, Nat.reduceMul, Nat.reduceAdd, b1, b2, b3, b4, b5, b6, i1, i2, i3, i4, i5, i6, Nat.reduceBEq, dflt, ej]; omega) | omega) : p := h
end H_c_FValid
open H_c_FValid in
set_option maxHeartbeats 1000000 in
set_option maxRecDepth 100000 in
theorem c_FValid (a : List Nat) (hl : a.length ≤ 4611686018427387904) : CallP Try.prog 128 [limL a] (bL (decide (a.length = 0 ∨ a.getD (a.length - 1) 0 ≠ 0))) := by
  unfold limL
  refine callP_of fol Try.func128 rfl (by decide +kernel) (by decide +kernel) (Nat.le_of_ble_eq_true rfl) tm0 ?_
  have ej : True := trivial
  refine wl_seq (wl_reg (asg ?_))
  refine st_end nfc_FValid_0 ?_
  refine then_n (wl_seq (wl_reg (mv ?_)))
  refine st_pure rfl ln32 ?_
  refine st_pure rfl (.bin rfl rfl rfl) ?_
  refine mv ?_
  refine opsL_split (d := 6) rfl (fun h6 => ?_) (fun h6 => ?_)
  · skip
    have h6r := h6
    try simp only [hce, l1, t0, t1, dflt, val_dig] at h6
    refine st_skip (guardX (v := true) rfl rfl (h6r) rfl) ?_
    refine st_skip (guardX (v := true) rfl rfl (h6r) rfl) ?_
    refine st_skip (guardX (v := true) rfl rfl (h6r) rfl) ?_
    refine st_skip (guardX (v := true) rfl rfl (h6r) rfl) ?_
    refine st_skip (guardX (v := true) rfl rfl (h6r) rfl) ?_
    refine st_skip (guardX (v := true) rfl rfl (h6r) rfl) ?_
    refine st_skip (guardX (v := true) rfl rfl (h6r) rfl) ?_
    refine st_pure rfl (.pickT rfl (h6r)) ?_
    refine asg ?_
    refine st_end nfc_FValid_0 ?_
    refine then_n (wl_ret ?_)
    refine ret1 ?_ (.pure rfl)
    simp only [e1, e2, e3, e4, p1, p2, p3, q1, q2, q3, Nat.reduceBEq]
    congr 2
    first | (symm; rw [decide_eq_true_iff]; omega) | (rw [Bool.eq_iff_iff, bne_iff_ne, decide_eq_true_iff]; omega)
  · skip
    have h6r := h6
    try simp only [hce, l1, t0, t1, dflt, val_dig] at h6
    have ej : ((a.length : Int) - 1).toNat = a.length - 1 := by omega
    refine st_pure (guardX (v := false) rfl rfl (h6r) rfl) (.move _) ?_
    refine st_pure (guardX (v := false) rfl rfl (h6r) rfl) (.move _) ?_
    refine st_pure (guardX (v := false) rfl rfl (h6r) rfl) ln32 ?_
    refine st_pure (guardX (v := false) rfl rfl (h6r) rfl) (.bin rfl rfl (sub64 om om)) ?_
    refine st_pure (guardX (v := false) rfl rfl (h6r) rfl) ix32 ?_
    refine st_pure (guardX (v := false) rfl rfl (h6r) rfl) ld31 ?_
    refine st_pure (guardX (v := false) rfl rfl (h6r) rfl) (.bin rfl rfl rfl) ?_
    refine st_pure rfl (.pickF rfl (h6r)) ?_
    refine asg ?_
    refine st_end nfc_FValid_0 ?_
    refine then_n (wl_ret ?_)
    refine ret1 ?_ (.pure rfl)
    simp only [e1, e2, e3, e4, p1, p2, p3, q1, q2, q3, Nat.reduceBEq]
    congr 2
    first | (symm; rw [decide_eq_true_iff]; omega) | (rw [Bool.eq_iff_iff, bne_iff_ne, decide_eq_true_iff]; omega)
theorem nfc_FBits_0 {p : Prop} (h : p := by (try simp only [e1, e2, e3, e4, p1, p2, p3, q1, q2, q3, l1, t0, t1, r1, r2, r3, r4, Nat.zero_add, Nat.reduceMul, Nat.reduceAdd, b1, b2, b3, b4, b5, b6, i1, i2, i3, i4, i5, i6, Nat.reduceBEq, dflt, ej]); exact rfl) : p := h
theorem clc_FBits_1 {p : Prop} (h : p := by first | rfl | (simp only [e1, e2, e3, e4, p1, p2, p3, q1, q2, q3, l1, t0, t1, r1, r2, r3, r4, Nat.zero_add, Nat.reduceMul, Nat.reduceAdd, b1, b2, b3, b4, b5, b6, i1, i2, i3, i4, i5, i6, Nat.reduceBEq, dflt, ej]; done) | (simp only [e1, e2, e3, e4, p1, p2, p3, q1, q2, q3, l1, t0, t1, r1, r2, r3, r4, Nat.zero_add, Nat.reduceMul, Nat.reduceAdd, b1, b2, b3, b4, b5, b6, i1, i2, i3, i4, i5, i6, Nat.reduceBEq, dflt, ej]; rfl) | (simp only [e1, e2, e3, e4, p1, p2, p3, q1, q2, q3, l1, t0, t1, r1, r2, r3, r4, Nat.zero_add, Nat.reduceMul, Nat.reduceAdd, b1, b2, b3, b4, b5, b6, i1, i2, i3, i4, i5, i6, Nat.reduceBEq, dflt, ej]; congr 3 <;> omega) | (simp only [e1, e2, e3, e4, p1, p2, p3, q1, q2, q3, l1, t0, t1, r1, r2, r3, r4, Nat.zero_add, Nat.reduceMul, Nat.reduceAdd, b1, b2, b3, b4, b5, b6, i1, i2, i3, i4, i5, i6, Nat.reduceBEq, dflt, ej]; congr 2 <;> omega)) : p := h
namespace H_c_FBits
theorem om {p : Prop} (h : p := by first | (simp only [e1, e2, e3, e4, p1, p2, p3, q1, q2, q3, l1, t0, t1, r1, r2, r3, r4, Nat.zero_add, Nat.reduceMul, Nat.reduceAdd, b1, b2, b3, b4, b5, b6, i1, i2, i3, i4, i5, i6, Nat.reduceBEq, dflt, ej]; omega) | omega) : p := h
end H_c_FBits
open H_c_FBits in
set_option maxHeartbeats 1000000 in
set_option maxRecDepth 100000 in
theorem c_FBits (m : Nat) (hla : (dig m).length ≤ 1099511627776) : CallP Try.prog 139 [magL m] (iL (blen m)) := by
  refine callP_of fol Try.func139 rfl (by decide +kernel) (by decide +kernel) (Nat.le_of_ble_eq_true rfl) tm0 ?_
  have ej : True := trivial
  refine wl_seq (wl_reg (asg ?_))
  refine st_end nfc_FBits_0 ?_
  refine then_n (wl_seq (wl_seq (wl_reg (mv ?_))))
  refine st_pure rfl ln32 ?_
  refine st_pure rfl (.bin rfl rfl rfl) ?_
  refine st_end nfc_FBits_0 ?_
  refine then_n ?_
  refine wl_cond rfl (fun h7 => ?_) (fun h7 => ?_)
  · skip
    have h7r := h7
    try simp only [hce, l1, t0, t1, dflt, val_dig] at h7
    have hz : m = 0 := dig_eq_nil.1 (List.eq_nil_of_length_eq_zero (by omega))
    subst hz
    refine wl_seq (wl_reg (asg ?_))
    refine st_end nfc_FBits_0 ?_
    refine then_n (wl_ret (then_r ?_))
    exact ret1 rfl (by first | exact .pure rfl | exact .pure (limL_pure _) | exact .pure (magL_pure _) | exact .pure (ratE.pure _) | exact .pure (pure_lst u32E _ _) | exact .pure (pure_lst ratE _ _))
  · skip
    have h7r := h7
    try simp only [hce, l1, t0, t1, dflt, val_dig] at h7
    have hpos : 0 < (dig m).length := by omega
    have ej : (((dig m).length : Int) - 1).toNat = (dig m).length - 1 := by omega
    have hz := blen_dig hpos
    have hlim := getD_dig_lt m ((dig m).length - 1)
    have hb32 : blen ((dig m).getD ((dig m).length - 1) 0) ≤ 32 := blen_le.2 hlim
    refine wl_skip (then_n (wl_seq (wl_reg (mv ?_))))
    refine st_pure rfl ln32 ?_
    refine st_pure rfl (.bin rfl rfl (sub64 om om)) ?_
    refine st_pure rfl (.bin rfl rfl (mul64 om om)) ?_
    refine asg ?_
    refine st_end nfc_FBits_0 ?_
    refine then_n (wl_seq (wl_seq (wl_reg (mv (mv ?_)))))
    refine st_pure rfl ln32 ?_
    refine st_pure rfl (.bin rfl rfl (sub64 om om)) ?_
    refine st_pure rfl ix32 ?_
    refine st_pure rfl ld31 ?_
    refine asg ?_
    refine st_end nfc_FBits_0 ?_
    refine then_n (wl_block ?_)
    refine wl_loop (α := Nat × Nat) (fun st L => (((St.mk L.slot (hp [])).put (some 3) (nI64 st.2)).put (some 4) (nU32 st.1))) (fun st => st.2 + blen st.1 = blen m ∧ st.1 < 4294967296 ∧ blen m ≤ 35184372088832) (fun st => st.1) ((dig m).getD ((dig m).length - 1) 0, 32 * ((dig m).length - 1)) (show (32 * ((dig m).length - 1)) + blen ((dig m).getD ((dig m).length - 1) 0) = blen m ∧ ((dig m).getD ((dig m).length - 1) 0) < 4294967296 ∧ blen m ≤ 35184372088832 from ⟨hz, hlim, by omega⟩) ⟨_, Weak.of_eq (put_id' (put_id' (mk_id' clc_FBits_1) clc_FBits_1) clc_FBits_1)⟩ ?_
    rintro ⟨x, q⟩ L1 hLC
    obtain ⟨hq, hx, hbm⟩ : q + blen x = blen m ∧ x < 4294967296 ∧ blen m ≤ 35184372088832 := hLC
    show wpL _ _ _ (((St.mk L1.slot (hp [])).put (some 3) (nI64 q)).put (some 4) (nU32 x))
    refine wl_seq (wl_seq (wl_reg (mv ?_)))
    refine st_pure rfl (.bin rfl rfl rfl) ?_
    refine st_end nfc_FBits_0 ?_
    refine then_n ?_
    refine wl_cond rfl (fun h19 => ?_) (fun h19 => ?_)
    · skip
      have h19r := h19
      try simp only [hce, l1, t0, t1, dflt, val_dig] at h19
      have hx0 : 0 < x := by omega
      refine wl_skip (then_n (wl_seq (wl_block (wl_reg (mv ?_)))))
      refine st_pure rfl (.bin rfl rfl (add64 om om)) ?_
      refine asg ?_
      refine st_end nfc_FBits_0 ?_
      refine blk_n (then_n (wl_reg (mv ?_)))
      refine st_pure rfl (.sh rfl rfl (shrC (m := 1) (by decide))) ?_
      refine asg ?_
      refine st_end nfc_FBits_0 ?_
      refine then_n ?_
      exact ⟨(x / 2 ^ 1, q + 1), _, (show (q + 1) + blen (x / 2 ^ 1) = blen m ∧ (x / 2 ^ 1) < 4294967296 ∧ blen m ≤ 35184372088832 from ⟨by have := blen_half hx0; omega, by omega, hbm⟩), (show (x / 2 ^ 1) < x from by omega), Weak.of_eq (put_id' (put_id' (mk_id' clc_FBits_1) clc_FBits_1) clc_FBits_1)⟩
    · skip
      have h19r := h19
      try simp only [hce, l1, t0, t1, dflt, val_dig] at h19
      obtain rfl : x = 0 := by omega
      have hb0 : blen 0 = 0 := rfl
      obtain rfl : q = blen m := by omega
      refine wl_exit ?_
      refine then_e (then_e (blk_e (then_n (wl_seq (wl_reg (mv (asg ?_)))))))
      refine st_end nfc_FBits_0 ?_
      refine then_n (wl_ret ?_)
      exact ret1 rfl (by first | exact .pure rfl | exact .pure (limL_pure _) | exact .pure (magL_pure _) | exact .pure (ratE.pure _) | exact .pure (pure_lst u32E _ _) | exact .pure (pure_lst ratE _ _))

end Go.Proofs.Ythhdcfhaldcheaa
