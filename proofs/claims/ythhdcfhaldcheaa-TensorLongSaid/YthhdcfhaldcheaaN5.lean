/- Magnitudes: contracts of shifts, digits, copies. -/
import Derived.Test.YthhdcfhaldcheaaN4
set_option linter.unusedVariables false
set_option linter.unusedSimpArgs false
namespace Go.Proofs.Ythhdcfhaldcheaa
open Go.Lg
theorem pow_s {s : Nat} (hs : s < 32) : 2 ^ s ≤ 2147483648 ∧ 0 < 2 ^ s := ⟨Nat.pow_le_pow_right (n := 2) (by omega) (show s ≤ 31 by omega), Nat.pow_pos (by omega)⟩
theorem wrap8 {m : Nat} (h : m < 256) : (0 : Int) ≤ IntKind.u8.wrap (m : Int) ∧ (IntKind.u8.wrap (m : Int)).toNat = m := by
  rw [IntKind.wrap_u8]; omega
theorem shl_lt {x p : Nat} (hx : x < 4294967296) (hp : p ≤ 2147483648) : x * p ≤ 9223372034707292160 := by
  have := Nat.mul_le_mul (Nat.le_sub_one_of_lt hx) hp; simpa using this
theorem carry_lt {x p c : Nat} (hx : x < 4294967296) (hc : c < p) : (x * p + c) / 4294967296 < p := by
  rw [Nat.div_lt_iff_lt_mul (by omega)]
  have : (x + 1) * p ≤ 4294967296 * p := Nat.mul_le_mul_right _ hx
  rw [Nat.add_mul] at this
  rw [Nat.mul_comm p]; omega
theorem nfc_raise_0 {p : Prop} (h : p := by (try simp only [e1, e2, e3, e4, p1, p2, p3, q1, q2, q3, l1, t0, t1, r1, r2, r3, r4, Nat.zero_add, Nat.reduceMul, Nat.reduceAdd, b1, b2, b3, b4, b5, b6, i1, i2, i3, i4, i5, i6, Nat.reduceBEq, dflt]); exact rfl) : p := h
theorem mlc_raise_1 {p : Prop} (h : p := by first | rfl | (simp only [e1, e2, e3, e4, p1, p2, p3, q1, q2, q3, l1, t0, t1, r1, r2, r3, r4, Nat.zero_add, Nat.reduceMul, Nat.reduceAdd, b1, b2, b3, b4, b5, b6, i1, i2, i3, i4, i5, i6, Nat.reduceBEq, dflt]; done) | (simp only [e1, e2, e3, e4, p1, p2, p3, q1, q2, q3, l1, t0, t1, r1, r2, r3, r4, Nat.zero_add, Nat.reduceMul, Nat.reduceAdd, b1, b2, b3, b4, b5, b6, i1, i2, i3, i4, i5, i6, Nat.reduceBEq, dflt]; rfl) | (simp only [e1, e2, e3, e4, p1, p2, p3, q1, q2, q3, l1, t0, t1, r1, r2, r3, r4, Nat.zero_add, Nat.reduceMul, Nat.reduceAdd, b1, b2, b3, b4, b5, b6, i1, i2, i3, i4, i5, i6, Nat.reduceBEq, dflt]; congr 2 <;> omega)) : p := h
theorem clc_raise_2 {p : Prop} (h : p := by first | rfl | (simp only [e1, e2, e3, e4, p1, p2, p3, q1, q2, q3, l1, t0, t1, r1, r2, r3, r4, Nat.zero_add, Nat.reduceMul, Nat.reduceAdd, b1, b2, b3, b4, b5, b6, i1, i2, i3, i4, i5, i6, Nat.reduceBEq, dflt]; done) | (simp only [e1, e2, e3, e4, p1, p2, p3, q1, q2, q3, l1, t0, t1, r1, r2, r3, r4, Nat.zero_add, Nat.reduceMul, Nat.reduceAdd, b1, b2, b3, b4, b5, b6, i1, i2, i3, i4, i5, i6, Nat.reduceBEq, dflt]; rfl) | (simp only [e1, e2, e3, e4, p1, p2, p3, q1, q2, q3, l1, t0, t1, r1, r2, r3, r4, Nat.zero_add, Nat.reduceMul, Nat.reduceAdd, b1, b2, b3, b4, b5, b6, i1, i2, i3, i4, i5, i6, Nat.reduceBEq, dflt]; congr 3 <;> omega) | (simp only [e1, e2, e3, e4, p1, p2, p3, q1, q2, q3, l1, t0, t1, r1, r2, r3, r4, Nat.zero_add, Nat.reduceMul, Nat.reduceAdd, b1, b2, b3, b4, b5, b6, i1, i2, i3, i4, i5, i6, Nat.reduceBEq, dflt]; congr 2 <;> omega)) : p := h
namespace H_c_raise
theorem om {p : Prop} (h : p := by first | (simp only [e1, e2, e3, e4, p1, p2, p3, q1, q2, q3, l1, t0, t1, r1, r2, r3, r4, Nat.zero_add, Nat.reduceMul, Nat.reduceAdd, b1, b2, b3, b4, b5, b6, i1, i2, i3, i4, i5, i6, Nat.reduceBEq, dflt]; omega) | omega) : p := h
end H_c_raise
open H_c_raise in
set_option maxHeartbeats 4000000 in
set_option maxRecDepth 100000 in
theorem c_raise (a : List Nat) (s : Nat) (ha : Lim a) (hla : a.length ≤ 1099511627776) (hs : s < 32) : CallOK Try.prog 149 [limL a, nI64 s] (.ref 1 1 0 (a.length + 1)) [⟨1, (padL (a.length + 1) (val a * 2 ^ s)).map u32L, true⟩] := by
  unfold limL
  refine callO_of fol Try.func149 rfl (by decide +kernel) (by decide +kernel) (Nat.le_of_ble_eq_true rfl) ?_
  refine wl_seq (wl_reg (asg ?_))
  refine st_end nfc_raise_0 ?_
  refine then_n (wl_seq (wl_reg (mv ?_)))
  refine st_pure rfl ln32 ?_
  refine st_pure rfl (.bin rfl rfl (add64 om om)) ?_
  refine st_alloc rfl rfl (.makeM (n := a.length + 1) (m := a.length + 1) u32E Try.underlying32 Z31 T31 B31 mlc_raise_1 mlc_raise_1 om om om) ?_
  refine asg ?_
  refine st_end nfc_raise_0 ?_
  refine then_n (wl_seq (wl_reg (asg ?_)))
  refine st_end nfc_raise_0 ?_
  refine then_n (wl_seq (wl_seq (wl_reg (mv ?_))))
  refine st_pure rfl ln32 ?_
  refine mv ?_
  refine st_end nfc_raise_0 ?_
  refine then_n (wl_block ?_)
  refine wl_loop (α := Nat × List Nat × Nat) (fun st L => ((((((((St.mk L.slot (hp [(12, ⟨1, st.2.1.map u32L, true⟩)])).put (some 0) (.list 1 (a.map u32L))).put (some 1) (nI64 s)).put (some 5) (.ref 12 1 0 (a.length + 1))).put (some 6) (nU64 st.2.2)).put (some 13) (.list 1 (a.map u32L))).put (some 14) (nI64 a.length)).put (some 15) (nI64 st.1))) (fun st => st.1 ≤ a.length ∧ st.2.1.length = a.length + 1 ∧ st.2.2 < 2 ^ s ∧ Lim st.2.1 ∧ val (st.2.1.take st.1) + 4294967296 ^ st.1 * st.2.2 = val (a.take st.1) * 2 ^ s) (fun st => a.length - st.1) (0, List.replicate (a.length + 1) 0, 0) (show (0) ≤ a.length ∧ (List.replicate (a.length + 1) 0).length = a.length + 1 ∧ (0) < 2 ^ s ∧ Lim (List.replicate (a.length + 1) 0) ∧ val ((List.replicate (a.length + 1) 0).take (0)) + 4294967296 ^ (0) * (0) = val (a.take (0)) * 2 ^ s from ⟨Nat.zero_le _, by simp, (pow_s hs).2, lim_zeros _, by simp [val]⟩) ⟨_, Weak.of_eq (put_id' (put_id' (put_id' (put_id' (put_id' (put_id' (put_id' (mk_id' clc_raise_2) clc_raise_2) clc_raise_2) clc_raise_2) clc_raise_2) clc_raise_2) clc_raise_2) clc_raise_2)⟩ ?_
  rintro ⟨k, o, c⟩ L1 hLC
  obtain ⟨hk, hol, hc, hlo, hv⟩ : k ≤ a.length ∧ o.length = a.length + 1 ∧ c < 2 ^ s ∧ Lim o ∧ val (o.take k) + 4294967296 ^ k * c = val (a.take k) * 2 ^ s := hLC
  show wpL _ _ _ ((((((((St.mk L1.slot (hp [(12, ⟨1, o.map u32L, true⟩)])).put (some 0) (.list 1 (a.map u32L))).put (some 1) (nI64 s)).put (some 5) (.ref 12 1 0 (a.length + 1))).put (some 6) (nU64 c)).put (some 13) (.list 1 (a.map u32L))).put (some 14) (nI64 a.length)).put (some 15) (nI64 k))
  have hxk := getD_lim ha k
  obtain ⟨hp1, hp2⟩ := pow_s hs
  have hsx := shl_lt hxk hp1
  refine wl_seq (wl_reg ?_)
  refine st_pure rfl (.bin rfl rfl rfl) ?_
  refine st_end nfc_raise_0 ?_
  refine then_n (wl_seq ?_)
  refine wl_cond rfl (fun h16 => ?_) (fun h16 => ?_)
  · skip
    have h16r := h16
    try simp only [hce, l1, t0, t1, dflt, val_dig] at h16
    refine wl_skip (then_n (wl_seq (wl_block (wl_seq (wl_reg (mv ?_))))))
    refine st_pure rfl ix32 ?_
    refine st_pure rfl ld31 ?_
    refine asg (asg ?_)
    refine st_end nfc_raise_0 ?_
    refine then_n (wl_seq (wl_reg (mv (mv ?_))))
    refine st_pure rfl (.cv64 Try.underlying31 Try.underlying116 rfl om) ?_
    refine mv ?_
    refine st_pure rfl (.sh rfl rfl (shlV (by omega) (by omega))) ?_
    refine st_pure rfl (.bin rfl rfl (orV hc (by omega))) ?_
    refine asg ?_
    refine st_end nfc_raise_0 ?_
    refine then_n (wl_seq (wl_reg (mv (mv (mv ?_)))))
    refine st_pure rfl (.cv32 Try.underlying116 Try.underlying31 rfl) ?_
    refine st_pure rfl ix32 ?_
    refine st_store rfl (by exact .storeM u32E rfl rfl rfl T31 om) ?_
    refine st_end nfc_raise_0 ?_
    refine then_n (wl_reg (mv ?_))
    refine st_pure rfl (.sh rfl rfl shr32) ?_
    refine asg ?_
    refine st_end nfc_raise_0 ?_
    refine blk_n (then_n (wl_reg ?_))
    refine st_pure rfl (.bin rfl rfl (add64 om om)) ?_
    refine mv ?_
    refine st_end nfc_raise_0 ?_
    refine then_n ?_
    exact ⟨(k + 1, o.set k ((a.getD k 0 * 2 ^ s + c) % 4294967296), (a.getD k 0 * 2 ^ s + c) / 4294967296), _, (show (k + 1) ≤ a.length ∧ (o.set k ((a.getD k 0 * 2 ^ s + c) % 4294967296)).length = a.length + 1 ∧ ((a.getD k 0 * 2 ^ s + c) / 4294967296) < 2 ^ s ∧ Lim (o.set k ((a.getD k 0 * 2 ^ s + c) % 4294967296)) ∧ val ((o.set k ((a.getD k 0 * 2 ^ s + c) % 4294967296)).take (k + 1)) + 4294967296 ^ (k + 1) * ((a.getD k 0 * 2 ^ s + c) / 4294967296) = val (a.take (k + 1)) * 2 ^ s from ⟨by omega, by simp [hol], carry_lt hxk hc, lim_set hlo _ _ (Nat.mod_lt _ (by omega)), raise_inv (by omega) hv rfl⟩), (show a.length - (k + 1) < a.length - k from by omega), Weak.of_eq (put_id' (put_id' (put_id' (put_id' (put_id' (put_id' (put_id' (mk_id' clc_raise_2) clc_raise_2) clc_raise_2) clc_raise_2) clc_raise_2) clc_raise_2) clc_raise_2) clc_raise_2)⟩
  · skip
    have h16r := h16
    try simp only [hce, l1, t0, t1, dflt, val_dig] at h16
    obtain rfl : k = a.length := by omega
    refine wl_exit ?_
    refine then_e (then_e (blk_e (then_n (wl_seq (wl_reg (mv (mv ?_)))))))
    refine st_pure rfl ln32 ?_
    refine mv ?_
    refine st_pure rfl (.cv32 Try.underlying116 Try.underlying31 rfl) ?_
    refine st_pure rfl ix32 ?_
    refine st_store rfl (by exact .storeM u32E rfl rfl rfl T31 om) ?_
    refine st_end nfc_raise_0 ?_
    refine then_n (wl_seq (wl_reg (mv (asg ?_))))
    refine st_end nfc_raise_0 ?_
    refine then_n (wl_ret ?_)
    have hc2 : c % 4294967296 = c := Nat.mod_eq_of_lt (by omega)
    have E := raise_end hol hv
    have E2 := padL_eq (lim_set hlo a.length c (by omega)) (by simp only [List.length_set]; exact hol)
    rw [E] at E2
    rw [← E2]
    simp only [hc2]
    exact ret1own rfl rfl (pures_map u32E _)
open H0 in
set_option maxHeartbeats 1000000 in
set_option maxRecDepth 100000 in
theorem c_NOf (n : Nat) (hn : n < 18446744073709551616) : CallP Try.prog 127 [nU64 n] (magL n) := by
  have hL : Lim [n % 4294967296, n / 4294967296 % 4294967296] := by
    intro x hx; simp at hx; omega
  have hV : val [n % 4294967296, n / 4294967296 % 4294967296] = n := by rw [val_two]; omega
  refine callP_of fol Try.func127 rfl (by decide +kernel) (by decide +kernel) (Nat.le_of_ble_eq_true rfl) tm0 ?_
  refine wl_seq (wl_reg (asg ?_))
  refine st_end nf0 ?_
  refine then_n (wl_seq (wl_reg (mv ?_)))
  refine st_pure rfl (.cv32 Try.underlying116 Try.underlying31 rfl) ?_
  refine mv ?_
  refine st_pure rfl (.sh rfl rfl shr32) ?_
  refine st_pure rfl (.cv32 Try.underlying116 Try.underlying31 rfl) ?_
  refine st_alloc rfl rfl (.lit2 u32E Try.underlying32 Z31 T31 rfl rfl (by decide) (by decide)) ?_
  refine st_callPf [8] rfl rfl (.cons im1 .nil) (c_trimD _ (by first | assumption | exact lim_dig _) (by first | omega | (simp; done) | (simp; omega))) ?_
  refine asg ?_
  refine st_end nf0 ?_
  refine then_n (wl_ret ?_)
  skip
  exact ret1 rfl (by rw [hV]; exact .pure (magL_pure _))
theorem nfc_Len32_0 {p : Prop} (h : p := by (try simp only [e1, e2, e3, e4, p1, p2, p3, q1, q2, q3, l1, t0, t1, r1, r2, r3, r4, Nat.zero_add, Nat.reduceMul, Nat.reduceAdd, b1, b2, b3, b4, b5, b6, i1, i2, i3, i4, i5, i6, Nat.reduceBEq, hbn]); exact rfl) : p := h
open H0 in
set_option maxHeartbeats 1000000 in
set_option maxRecDepth 100000 in
theorem c_Len32 (n : Nat) (hn : n < 4294967296) : CallP Try.prog 123 [nU32 n] (iL (blen n)) := by
  refine callP_of fol Try.func123 rfl (by decide +kernel) (by decide +kernel) (Nat.le_of_ble_eq_true rfl) tm0 ?_
  refine wl_seq (wl_reg (asg ?_))
  refine st_end nf0 ?_
  refine then_n (wl_seq (wl_seq (wl_reg (mv ?_))))
  refine st_pure rfl (.bin rfl rfl rfl) ?_
  refine st_end nf0 ?_
  refine then_n ?_
  refine wl_cut (fun L => ∃ (m : Nat) (q : Nat) (L1 : St), (blen n = q + blen m ∧ m < 65536 ∧ q ≤ 16) ∧ L = (((St.mk L1.slot (hp [])).put (some 0) (nU32 m)).put (some 2) (iL q))) ?_ ?_
  · skip
    refine wl_cond rfl (fun h4 => ?_) (fun h4 => ?_)
    · skip
      have h4r := h4
      try simp only [hce, l1, t0, t1, dflt, val_dig] at h4
      refine wl_seq (wl_reg (mv ?_))
      refine st_pure rfl (.sh rfl rfl (shrC (m := 16) (by decide))) ?_
      refine asg ?_
      refine st_end nf0 ?_
      refine then_n (wl_reg (asg ?_))
      refine st_end nf0 ?_
      refine then_n ?_
      exact ⟨n / 2 ^ 16, 16, _, ⟨blen_div (by omega), by omega, by omega⟩, ((put_id' (put_id' (mk_id' cl0) cl0) cl0)).symm⟩
    · skip
      have h4r := h4
      try simp only [hce, l1, t0, t1, dflt, val_dig] at h4
      refine wl_skip (then_n ?_)
      exact ⟨n, 0, _, ⟨by omega, by omega, by omega⟩, ((put_id' (put_id' (mk_id' cl0) cl0) cl0)).symm⟩
  · skip
    rintro _ ⟨m, q, LC4, ⟨hb1, hm, hq⟩, rfl⟩
    refine then_n (wl_seq (wl_seq (wl_reg (mv ?_))))
    refine st_pure rfl (.bin rfl rfl rfl) ?_
    refine st_end nf0 ?_
    refine then_n ?_
    refine wl_cut (fun L => ∃ (m2 : Nat) (q2 : Nat) (L1 : St), (blen n = q2 + blen m2 ∧ m2 < 256 ∧ q2 ≤ 24) ∧ L = (((St.mk L1.slot (hp [])).put (some 0) (nU32 m2)).put (some 2) (iL q2))) ?_ ?_
    · skip
      refine wl_cond rfl (fun h8 => ?_) (fun h8 => ?_)
      · skip
        have h8r := h8
        try simp only [hce, l1, t0, t1, dflt, val_dig] at h8
        refine wl_seq (wl_reg (mv ?_))
        refine st_pure rfl (.sh rfl rfl (shrC (m := 8) (by decide))) ?_
        refine asg ?_
        refine st_end nf0 ?_
        refine then_n (wl_reg (mv ?_))
        refine st_pure rfl (.bin rfl rfl (add64 om om)) ?_
        refine asg ?_
        refine st_end nf0 ?_
        refine then_n ?_
        exact ⟨m / 2 ^ 8, q + 8, _, ⟨by rw [hb1, blen_div (n := m) (k := 8) (by omega)]; omega, by omega, by omega⟩, ((put_id' (put_id' (mk_id' cl0) cl0) cl0)).symm⟩
      · skip
        have h8r := h8
        try simp only [hce, l1, t0, t1, dflt, val_dig] at h8
        refine wl_skip (then_n ?_)
        exact ⟨m, q, _, ⟨hb1, by omega, by omega⟩, ((put_id' (put_id' (mk_id' cl0) cl0) cl0)).symm⟩
    · skip
      rintro _ ⟨m2, q2, LC8, ⟨hb2, hm2, hq2⟩, rfl⟩
      have hb8 : blen m2 ≤ 8 := blen_le.2 hm2
      have hbn : (UInt8.ofNat (blen m2)).toNat = blen m2 := (by decide : ∀ k, k ≤ 8 → (UInt8.ofNat k).toNat = k) _ hb8
      refine then_n (wl_seq (wl_reg (mv (mv ?_))))
      refine st_pure rfl (.conv Try.underlying31 Try.underlying5 rfl) ?_
      refine st_pure rfl (.indexS (b := UInt8.ofNat (blen m2)) rfl Try.underlying9 rfl (wrap8 hm2).1 (by rw [(wrap8 hm2).2]; exact tbl (by decide +kernel) hm2)) ?_
      refine st_pure rfl (.cvI Try.underlying5 Try.underlying3 rfl (by omega) (by omega)) ?_
      refine st_pure rfl (.bin rfl rfl (add64 (by omega) (by omega))) ?_
      refine asg ?_
      refine st_end nfc_Len32_0 ?_
      refine then_n (wl_ret ?_)
      rw [hb2]
      exact ret1 rfl (by first | exact .pure rfl | (rw [hbn]; exact .pure rfl))
open H0 in
set_option maxHeartbeats 1000000 in
set_option maxRecDepth 100000 in
theorem c_LZ32 (n : Nat) (hn : n < 4294967296) : CallP Try.prog 148 [nU32 n] (iL (32 - blen n)) := by
  have hb : blen n ≤ 32 := blen_le.2 hn
  refine callP_of fol Try.func148 rfl (by decide +kernel) (by decide +kernel) (Nat.le_of_ble_eq_true rfl) tm0 ?_
  refine wl_seq (wl_reg (asg ?_))
  refine st_end nf0 ?_
  refine then_n (wl_seq (wl_reg (mv ?_)))
  refine st_callP rfl (.cons im0 .nil) (c_Len32 _ (by omega)) ?_
  refine st_pure rfl (.bin rfl rfl (sub64 om om)) ?_
  refine asg ?_
  refine st_end nf0 ?_
  refine then_n (wl_ret ?_)
  exact ret1 rfl (by first | exact .pure rfl | exact .pure (limL_pure _) | exact .pure (magL_pure _) | exact .pure (ratE.pure _) | exact .pure (pure_lst u32E _ _) | exact .pure (pure_lst ratE _ _))
theorem c_trimC (l : List Nat) (h : Lim l) (hl : l.length ≤ 1099511627776) : (dig (val l)).length ≤ 1099511627776 := Nat.le_trans (len_trim_le h) hl
theorem blen_dig {n : Nat} (h : 0 < (dig n).length) : 32 * ((dig n).length - 1) + blen ((dig n).getD ((dig n).length - 1) 0) = blen n := by
  have := blen_val (lim_dig n) (can_dig n) h
  rw [val_dig] at this; omega
theorem nfc_NBits_0 {p : Prop} (h : p := by (try simp only [e1, e2, e3, e4, p1, p2, p3, q1, q2, q3, l1, t0, t1, r1, r2, r3, r4, Nat.zero_add, Nat.reduceMul, Nat.reduceAdd, b1, b2, b3, b4, b5, b6, i1, i2, i3, i4, i5, i6, Nat.reduceBEq, dflt, ej]); exact rfl) : p := h
namespace H_c_NBits
theorem om {p : Prop} (h : p := by first | (simp only [e1, e2, e3, e4, p1, p2, p3, q1, q2, q3, l1, t0, t1, r1, r2, r3, r4, Nat.zero_add, Nat.reduceMul, Nat.reduceAdd, b1, b2, b3, b4, b5, b6, i1, i2, i3, i4, i5, i6, Nat.reduceBEq, dflt, ej]; omega) | omega) : p := h
end H_c_NBits
open H_c_NBits in
set_option maxHeartbeats 1000000 in
set_option maxRecDepth 100000 in
theorem c_NBits (a : List Nat) (ha : Lim a) (hla : a.length ≤ 1099511627776) : CallP Try.prog 96 [limL a] (iL (blen (val a))) := by
  have hlt := c_trimC a ha hla
  refine callP_of fol Try.func96 rfl (by decide +kernel) (by decide +kernel) (Nat.le_of_ble_eq_true rfl) tm0 ?_
  have ej : True := trivial
  refine wl_seq (wl_reg (asg ?_))
  refine st_end nfc_NBits_0 ?_
  refine then_n (wl_seq (wl_reg (mv ?_)))
  refine st_callP rfl (.cons im0 .nil) (c_trimD _ (by first | assumption | exact lim_dig _) (by first | omega | (simp; done) | (simp; omega))) ?_
  refine asg ?_
  refine st_end nfc_NBits_0 ?_
  refine then_n (wl_seq (wl_seq (wl_reg (mv ?_))))
  refine st_pure rfl ln32 ?_
  refine st_pure rfl (.bin rfl rfl rfl) ?_
  refine st_end nfc_NBits_0 ?_
  refine then_n ?_
  refine wl_cond rfl (fun h7 => ?_) (fun h7 => ?_)
  · skip
    have h7r := h7
    try simp only [hce, l1, t0, t1, dflt, val_dig] at h7
    have h0 : val a = 0 := dig_eq_nil.1 (List.eq_nil_of_length_eq_zero (by omega))
    have hz : blen (val a) = 0 := blen_zero.2 h0
    refine wl_seq (wl_reg (asg ?_))
    refine st_end nfc_NBits_0 ?_
    refine then_n (wl_ret (then_r ?_))
    rw [hz]
    exact ret1 rfl (by first | exact .pure rfl | exact .pure (limL_pure _) | exact .pure (magL_pure _) | exact .pure (ratE.pure _) | exact .pure (pure_lst u32E _ _) | exact .pure (pure_lst ratE _ _))
  · skip
    have h7r := h7
    try simp only [hce, l1, t0, t1, dflt, val_dig] at h7
    have hpos : 0 < (dig (val a)).length := by omega
    have ej : (((dig (val a)).length : Int) - 1).toNat = (dig (val a)).length - 1 := by omega
    have hz := blen_dig hpos
    have hlim := getD_dig_lt (val a) ((dig (val a)).length - 1)
    have hb32 : blen ((dig (val a)).getD ((dig (val a)).length - 1) 0) ≤ 32 := blen_le.2 hlim
    refine wl_skip (then_n (wl_seq (wl_reg (mv ?_))))
    refine st_pure rfl ln32 ?_
    refine st_pure rfl (.bin rfl rfl (sub64 om om)) ?_
    refine st_pure rfl (.bin rfl rfl (mul64 om om)) ?_
    refine mv (mv ?_)
    refine st_pure rfl ln32 ?_
    refine st_pure rfl (.bin rfl rfl (sub64 om om)) ?_
    refine st_pure rfl ix32 ?_
    refine st_pure rfl ld31 ?_
    refine st_callP rfl (.cons im0 .nil) (c_Len32 _ (by rw [ej]; exact hlim)) ?_
    refine st_pure rfl (.bin rfl rfl (add64 (by simp only [ej, dflt]; omega) (by simp only [ej, dflt]; omega))) ?_
    refine asg ?_
    refine st_end nfc_NBits_0 ?_
    refine then_n (wl_ret ?_)
    refine ret1 ?_ (.pure rfl)
    simp only [e1, e2, e3, e4, p1, p2, p3, q1, q2, q3, Nat.reduceBEq]
    congr 2
    omega
theorem nfc_Clone_0 {p : Prop} (h : p := by (try simp only [e1, e2, e3, e4, p1, p2, p3, q1, q2, q3, l1, t0, t1, r1, r2, r3, r4, Nat.zero_add, Nat.reduceMul, Nat.reduceAdd, b1, b2, b3, b4, b5, b6, i1, i2, i3, i4, i5, i6, Nat.reduceBEq, List.take_zero, List.take_nil, List.nil_append, kills_map u32E, LV.kill]); exact rfl) : p := h
open H0 in
set_option maxHeartbeats 1000000 in
set_option maxRecDepth 100000 in
theorem c_Clone (a : List Nat) (hla : a.length ≤ 1099511627776) : CallP Try.prog 124 [limL a] (limL a) := by
  unfold limL
  refine callP_of fol Try.func124 rfl (by decide +kernel) (by decide +kernel) (Nat.le_of_ble_eq_true rfl) tm0 ?_
  refine wl_seq (wl_reg (asg ?_))
  refine st_end nf0 ?_
  refine then_n (wl_seq (wl_seq ?_))
  refine wl_regE (nil_reg (sz := 1) (l := a.map u32L) rfl Try.underlying32 (fun b hb => ?_))
  refine then_n ?_
  refine wl_cond rfl (fun h4 => ?_) (fun h4 => ?_)
  · skip
    have h4r := h4
    try simp only [hce, l1, t0, t1, dflt, val_dig] at h4
    have hnil : a = [] := by simpa using hb h4r
    subst hnil
    refine wl_seq (wl_reg (asg ?_))
    refine st_end nf0 ?_
    refine then_n (wl_ret (then_r ?_))
    exact ret1 rfl (.nil 1)
  · skip
    have h4r := h4
    try simp only [hce, l1, t0, t1, dflt, val_dig] at h4
    refine wl_skip (then_n (wl_seq (wl_reg ?_)))
    refine st_alloc rfl rfl (.lit0 Try.underlying32 T31) ?_
    refine mv ?_
    refine st_store rfl (.app rfl rfl rfl rfl rfl (Nat.zero_le _) (.inr rfl) (by decide) Try.underlying32 Try.underlying32 Z31 T31 rfl B31 (.inr (.inl rfl)) (by simp; omega) (by simp; omega) (by decide)) ?_
    refine asg ?_
    refine st_end nfc_Clone_0 ?_
    refine then_n (wl_ret ?_)
    exact ret1f [7] rfl rfl (imm_refm u32E rfl rfl (by simp))
theorem nfc_Equal_0 {p : Prop} (h : p := by (try simp only [e1, e2, e3, e4, p1, p2, p3, q1, q2, q3, l1, t0, t1, r1, r2, r3, r4, Nat.zero_add, Nat.reduceMul, Nat.reduceAdd, b1, b2, b3, b4, b5, b6, i1, i2, i3, i4, i5, i6, Nat.reduceBEq, dflt]); exact rfl) : p := h
theorem clc_Equal_1 {p : Prop} (h : p := by first | rfl | (simp only [e1, e2, e3, e4, p1, p2, p3, q1, q2, q3, l1, t0, t1, r1, r2, r3, r4, Nat.zero_add, Nat.reduceMul, Nat.reduceAdd, b1, b2, b3, b4, b5, b6, i1, i2, i3, i4, i5, i6, Nat.reduceBEq, dflt]; done) | (simp only [e1, e2, e3, e4, p1, p2, p3, q1, q2, q3, l1, t0, t1, r1, r2, r3, r4, Nat.zero_add, Nat.reduceMul, Nat.reduceAdd, b1, b2, b3, b4, b5, b6, i1, i2, i3, i4, i5, i6, Nat.reduceBEq, dflt]; rfl) | (simp only [e1, e2, e3, e4, p1, p2, p3, q1, q2, q3, l1, t0, t1, r1, r2, r3, r4, Nat.zero_add, Nat.reduceMul, Nat.reduceAdd, b1, b2, b3, b4, b5, b6, i1, i2, i3, i4, i5, i6, Nat.reduceBEq, dflt]; congr 3 <;> omega) | (simp only [e1, e2, e3, e4, p1, p2, p3, q1, q2, q3, l1, t0, t1, r1, r2, r3, r4, Nat.zero_add, Nat.reduceMul, Nat.reduceAdd, b1, b2, b3, b4, b5, b6, i1, i2, i3, i4, i5, i6, Nat.reduceBEq, dflt]; congr 2 <;> omega)) : p := h
namespace H_c_Equal
theorem om {p : Prop} (h : p := by first | (simp only [e1, e2, e3, e4, p1, p2, p3, q1, q2, q3, l1, t0, t1, r1, r2, r3, r4, Nat.zero_add, Nat.reduceMul, Nat.reduceAdd, b1, b2, b3, b4, b5, b6, i1, i2, i3, i4, i5, i6, Nat.reduceBEq, dflt]; omega) | omega) : p := h
end H_c_Equal
open H_c_Equal in
set_option maxHeartbeats 1000000 in
set_option maxRecDepth 100000 in
theorem c_Equal (a b : List Nat) (hla : a.length ≤ 1099511627776) (hlb : b.length ≤ 1099511627776) : CallP Try.prog 132 [limL a, limL b] (bL (decide (a = b))) := by
  unfold limL
  refine callP_of fol Try.func132 rfl (by decide +kernel) (by decide +kernel) (Nat.le_of_ble_eq_true rfl) tm0 ?_
  refine wl_seq (wl_reg (asg ?_))
  refine st_end nfc_Equal_0 ?_
  refine then_n (wl_seq (wl_seq (wl_reg (mv ?_))))
  refine st_pure rfl ln32 ?_
  refine mv ?_
  refine st_pure rfl ln32 ?_
  refine st_pure rfl (.bin rfl rfl rfl) ?_
  refine st_end nfc_Equal_0 ?_
  refine then_n ?_
  refine wl_cond rfl (fun h10 => ?_) (fun h10 => ?_)
  · skip
    have h10r := h10
    try simp only [hce, l1, t0, t1, dflt, val_dig] at h10
    have hE : a ≠ b := by rintro rfl; omega
    refine wl_seq (wl_reg (asg ?_))
    refine st_end nfc_Equal_0 ?_
    refine then_n (wl_ret (then_r ?_))
    first | (rw [decide_eq_true hE]; exact ret1 rfl (.pure rfl)) | (rw [decide_eq_false hE]; exact ret1 rfl (.pure rfl))
  · skip
    have h10r := h10
    try simp only [hce, l1, t0, t1, dflt, val_dig] at h10
    have hl : a.length = b.length := by omega
    clear h10 h10r
    refine wl_skip (then_n (wl_seq (wl_seq (wl_reg (mv ?_)))))
    refine st_pure rfl ln32 ?_
    refine mv ?_
    refine st_end nfc_Equal_0 ?_
    refine then_n (wl_block ?_)
    refine wl_loop (α := Nat) (fun st L => ((((((St.mk L.slot (hp [])).put (some 0) (.list 1 (a.map u32L))).put (some 1) (.list 1 (b.map u32L))).put (some 11) (.list 1 (a.map u32L))).put (some 12) (nI64 a.length)).put (some 13) (nI64 st))) (fun st => st ≤ a.length ∧ a.take st = b.take st) (fun st => a.length - st) 0 (show (0) ≤ a.length ∧ a.take (0) = b.take (0) from ⟨Nat.zero_le _, rfl⟩) ⟨_, Weak.of_eq (put_id' (put_id' (put_id' (put_id' (put_id' (mk_id' clc_Equal_1) clc_Equal_1) clc_Equal_1) clc_Equal_1) clc_Equal_1) clc_Equal_1)⟩ ?_
    rintro k L1 hLC
    obtain ⟨hk, ht⟩ : k ≤ a.length ∧ a.take k = b.take k := hLC
    show wpL _ _ _ ((((((St.mk L1.slot (hp [])).put (some 0) (.list 1 (a.map u32L))).put (some 1) (.list 1 (b.map u32L))).put (some 11) (.list 1 (a.map u32L))).put (some 12) (nI64 a.length)).put (some 13) (nI64 k))
    refine wl_seq (wl_reg ?_)
    refine st_pure rfl (.bin rfl rfl rfl) ?_
    refine st_end nfc_Equal_0 ?_
    refine then_n (wl_seq ?_)
    refine wl_cond rfl (fun h14 => ?_) (fun h14 => ?_)
    · skip
      have h14r := h14
      try simp only [hce, l1, t0, t1, dflt, val_dig] at h14
      refine wl_skip (then_n (wl_seq (wl_block (wl_seq (wl_reg (mv (asg ?_)))))))
      refine st_end nfc_Equal_0 ?_
      refine then_n (wl_seq ?_)
      refine wl_regD 9 (by decide +kernel) ?_
      refine mv (mv ?_)
      refine st_pure rfl ix32 ?_
      refine st_pure rfl ld31 ?_
      refine mv (mv ?_)
      refine st_pure rfl ix32 ?_
      refine st_pure rfl ld31 ?_
      refine st_pure rfl (.bin rfl rfl rfl) ?_
      refine st_end nfc_Equal_0 ?_
      refine then_n ?_
      refine wl_cond rfl (fun h24 => ?_) (fun h24 => ?_)
      · skip
        have h24r := h24
        try simp only [hce, l1, t0, t1, dflt, val_dig] at h24
        have hE : a ≠ b := by rintro rfl; omega
        refine wl_seq (wl_reg (asg ?_))
        refine st_end nfc_Equal_0 ?_
        refine then_n (wl_ret (blk_r (then_r (then_r (blk_r (then_r ?_))))))
        first | (rw [decide_eq_true hE]; exact ret1 rfl (.pure rfl)) | (rw [decide_eq_false hE]; exact ret1 rfl (.pure rfl))
      · skip
        have h24r := h24
        try simp only [hce, l1, t0, t1, dflt, val_dig] at h24
        refine wl_skip (blk_n (then_n (wl_reg ?_)))
        refine st_pure rfl (.bin rfl rfl (add64 om om)) ?_
        refine mv ?_
        refine st_end nfc_Equal_0 ?_
        refine then_n ?_
        exact ⟨k + 1, _, (show (k + 1) ≤ a.length ∧ a.take (k + 1) = b.take (k + 1) from ⟨by omega, take_eq_of (by omega) (by omega) ht (by omega)⟩), (show a.length - (k + 1) < a.length - k from by omega), Weak.of_eq (put_id' (put_id' (put_id' (put_id' (put_id' (mk_id' clc_Equal_1) clc_Equal_1) clc_Equal_1) clc_Equal_1) clc_Equal_1) clc_Equal_1)⟩
    · skip
      have h14r := h14
      try simp only [hce, l1, t0, t1, dflt, val_dig] at h14
      obtain rfl : k = a.length := by omega
      have hE : a = b := by rw [List.take_length, hl, List.take_length] at ht; exact ht
      refine wl_exit ?_
      refine then_e (then_e (blk_e (then_n (wl_seq (wl_reg (asg ?_))))))
      refine st_end nfc_Equal_0 ?_
      refine then_n (wl_ret ?_)
      first | (rw [decide_eq_true hE]; exact ret1 rfl (.pure rfl)) | (rw [decide_eq_false hE]; exact ret1 rfl (.pure rfl))
end Go.Proofs.Ythhdcfhaldcheaa
