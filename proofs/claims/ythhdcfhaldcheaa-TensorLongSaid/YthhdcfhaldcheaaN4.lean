/- Magnitudes: contracts of products, quotients by a limb, shifts. -/
import Derived.Test.YthhdcfhaldcheaaN3
set_option linter.unusedVariables false
set_option linter.unusedSimpArgs false
namespace Go.Proofs.Ythhdcfhaldcheaa
open Go.Lg
theorem mul_s_lt {c x y z : Nat} (hc : c < 4294967296) (hx : x < 4294967296) (hy : y < 4294967296) (hz : z < 4294967296) : c + (x * y + z) < 18446744073709551616 := by
  have := mulLt hx hy; omega
theorem mul_zero {i x : Nat} {a b o : List Nat} (hx : x = a.getD i 0) (h0 : x = 0) (hv : val o = val (a.take i) * val b) : val o = val (a.take (i + 1)) * val b := by
  rw [val_take_succ', ← hx, h0]; simpa using hv
theorem zeros_set {i m j x : Nat} {o : List Nat} (hj : j < m) (hz : ∀ p, i + m ≤ p → o.getD p 0 = 0) : ∀ p, i + m ≤ p → (o.set (i + j) x).getD p 0 = 0 := fun p hp => by
  rw [Go.Lg.getD_set_ne _ _ _ _ (by omega)]; exact hz p hp
theorem zeros_end {i m x : Nat} {o : List Nat} (hz : ∀ p, i + m ≤ p → o.getD p 0 = 0) : ∀ p, i + 1 + m ≤ p → (o.set (i + m) x).getD p 0 = 0 := fun p hp => by
  rw [Go.Lg.getD_set_ne _ _ _ _ (by omega)]; exact hz p (by omega)
theorem getD_zeros (n p : Nat) : (List.replicate n 0).getD p 0 = 0 := by
  rw [List.getD_eq_getElem?_getD, List.getElem?_replicate]; split <;> rfl
theorem nfc_NMul_0 {p : Prop} (h : p := by (try simp only [e1, e2, e3, e4, p1, p2, p3, q1, q2, q3, l1, t0, t1, r1, r2, r3, r4, Nat.zero_add, Nat.reduceMul, Nat.reduceAdd, b1, b2, b3, b4, b5, b6, i1, i2, i3, i4, i5, i6, Nat.reduceBEq, dflt, eij]); exact rfl) : p := h
theorem mlc_NMul_1 {p : Prop} (h : p := by first | rfl | (simp only [e1, e2, e3, e4, p1, p2, p3, q1, q2, q3, l1, t0, t1, r1, r2, r3, r4, Nat.zero_add, Nat.reduceMul, Nat.reduceAdd, b1, b2, b3, b4, b5, b6, i1, i2, i3, i4, i5, i6, Nat.reduceBEq, dflt, eij]; done) | (simp only [e1, e2, e3, e4, p1, p2, p3, q1, q2, q3, l1, t0, t1, r1, r2, r3, r4, Nat.zero_add, Nat.reduceMul, Nat.reduceAdd, b1, b2, b3, b4, b5, b6, i1, i2, i3, i4, i5, i6, Nat.reduceBEq, dflt, eij]; rfl) | (simp only [e1, e2, e3, e4, p1, p2, p3, q1, q2, q3, l1, t0, t1, r1, r2, r3, r4, Nat.zero_add, Nat.reduceMul, Nat.reduceAdd, b1, b2, b3, b4, b5, b6, i1, i2, i3, i4, i5, i6, Nat.reduceBEq, dflt, eij]; congr 2 <;> omega)) : p := h
theorem clc_NMul_2 {p : Prop} (h : p := by first | rfl | (simp only [e1, e2, e3, e4, p1, p2, p3, q1, q2, q3, l1, t0, t1, r1, r2, r3, r4, Nat.zero_add, Nat.reduceMul, Nat.reduceAdd, b1, b2, b3, b4, b5, b6, i1, i2, i3, i4, i5, i6, Nat.reduceBEq, dflt, eij]; done) | (simp only [e1, e2, e3, e4, p1, p2, p3, q1, q2, q3, l1, t0, t1, r1, r2, r3, r4, Nat.zero_add, Nat.reduceMul, Nat.reduceAdd, b1, b2, b3, b4, b5, b6, i1, i2, i3, i4, i5, i6, Nat.reduceBEq, dflt, eij]; rfl) | (simp only [e1, e2, e3, e4, p1, p2, p3, q1, q2, q3, l1, t0, t1, r1, r2, r3, r4, Nat.zero_add, Nat.reduceMul, Nat.reduceAdd, b1, b2, b3, b4, b5, b6, i1, i2, i3, i4, i5, i6, Nat.reduceBEq, dflt, eij]; congr 3 <;> omega) | (simp only [e1, e2, e3, e4, p1, p2, p3, q1, q2, q3, l1, t0, t1, r1, r2, r3, r4, Nat.zero_add, Nat.reduceMul, Nat.reduceAdd, b1, b2, b3, b4, b5, b6, i1, i2, i3, i4, i5, i6, Nat.reduceBEq, dflt, eij]; congr 2 <;> omega)) : p := h
namespace H_c_NMul
theorem om {p : Prop} (h : p := by first | (simp only [e1, e2, e3, e4, p1, p2, p3, q1, q2, q3, l1, t0, t1, r1, r2, r3, r4, Nat.zero_add, Nat.reduceMul, Nat.reduceAdd, b1, b2, b3, b4, b5, b6, i1, i2, i3, i4, i5, i6, Nat.reduceBEq, dflt, eij]; omega) | omega) : p := h
end H_c_NMul
open H_c_NMul in
set_option maxHeartbeats 4000000 in
set_option maxRecDepth 100000 in
theorem c_NMul (a b : List Nat) (ha : Lim a) (hb : Lim b) (hla : a.length ≤ 1099511627776) (hlb : b.length ≤ 1099511627776) : CallP Try.prog 107 [limL a, limL b] (magL (val a * val b)) := by
  unfold limL
  refine callP_of fol Try.func107 rfl (by decide +kernel) (by decide +kernel) (Nat.le_of_ble_eq_true rfl) tm0 ?_
  have eij : True := trivial
  refine wl_seq (wl_reg (asg ?_))
  refine st_end nfc_NMul_0 ?_
  refine then_n (wl_seq (wl_reg (mv ?_)))
  refine st_pure rfl ln32 ?_
  refine mv ?_
  refine st_pure rfl ln32 ?_
  refine st_pure rfl (.bin rfl rfl (add64 om om)) ?_
  refine st_alloc rfl rfl (.makeM (n := a.length + b.length) (m := a.length + b.length) u32E Try.underlying32 Z31 T31 B31 mlc_NMul_1 mlc_NMul_1 om om om) ?_
  refine asg ?_
  refine st_end nfc_NMul_0 ?_
  refine then_n (wl_seq (wl_seq (wl_reg (mv ?_))))
  refine st_pure rfl ln32 ?_
  refine mv ?_
  refine st_end nfc_NMul_0 ?_
  refine then_n (wl_block ?_)
  refine wl_loop (α := Nat × List Nat) (fun st L => (((((((St.mk L.slot (hp [(16, ⟨1, st.2.map u32L, true⟩)])).put (some 0) (.list 1 (a.map u32L))).put (some 1) (.list 1 (b.map u32L))).put (some 5) (.ref 16 1 0 (a.length + b.length))).put (some 17) (.list 1 (a.map u32L))).put (some 18) (nI64 a.length)).put (some 19) (nI64 st.1))) (fun st => st.1 ≤ a.length ∧ st.2.length = a.length + b.length ∧ Lim st.2 ∧ val st.2 = val (a.take st.1) * val b ∧ ∀ p, st.1 + b.length ≤ p → st.2.getD p 0 = 0) (fun st => a.length - st.1) (0, List.replicate (a.length + b.length) 0) (show (0) ≤ a.length ∧ (List.replicate (a.length + b.length) 0).length = a.length + b.length ∧ Lim (List.replicate (a.length + b.length) 0) ∧ val (List.replicate (a.length + b.length) 0) = val (a.take (0)) * val b ∧ ∀ p, (0) + b.length ≤ p → (List.replicate (a.length + b.length) 0).getD p 0 = 0 from ⟨Nat.zero_le _, by simp, lim_zeros _, by simp [val, val_zeros], fun p _ => getD_zeros _ _⟩) ⟨_, Weak.of_eq (put_id' (put_id' (put_id' (put_id' (put_id' (put_id' (mk_id' clc_NMul_2) clc_NMul_2) clc_NMul_2) clc_NMul_2) clc_NMul_2) clc_NMul_2) clc_NMul_2)⟩ ?_
  rintro ⟨i, o⟩ L1 hLC
  obtain ⟨hi, hol, hlo, hv, hz⟩ : i ≤ a.length ∧ o.length = a.length + b.length ∧ Lim o ∧ val o = val (a.take i) * val b ∧ ∀ p, i + b.length ≤ p → o.getD p 0 = 0 := hLC
  show wpL _ _ _ (((((((St.mk L1.slot (hp [(16, ⟨1, o.map u32L, true⟩)])).put (some 0) (.list 1 (a.map u32L))).put (some 1) (.list 1 (b.map u32L))).put (some 5) (.ref 16 1 0 (a.length + b.length))).put (some 17) (.list 1 (a.map u32L))).put (some 18) (nI64 a.length)).put (some 19) (nI64 i))
  have hxi := getD_lim ha i
  have eij : True := trivial
  refine wl_seq (wl_reg ?_)
  refine st_pure rfl (.bin rfl rfl rfl) ?_
  refine st_end nfc_NMul_0 ?_
  refine then_n (wl_seq ?_)
  refine wl_cond rfl (fun h20 => ?_) (fun h20 => ?_)
  · skip
    have h20r := h20
    try simp only [hce, l1, t0, t1, dflt, val_dig] at h20
    refine wl_skip (then_n (wl_seq (wl_block (wl_seq (wl_reg (mv ?_))))))
    refine st_pure rfl ix32 ?_
    refine st_pure rfl ld31 ?_
    refine asg (asg ?_)
    refine st_end nfc_NMul_0 ?_
    refine then_n (wl_seq (wl_seq (wl_reg (mv ?_))))
    refine st_pure rfl (.bin rfl rfl rfl) ?_
    refine st_end nfc_NMul_0 ?_
    refine then_n ?_
    refine wl_cond rfl (fun h25 => ?_) (fun h25 => ?_)
    · skip
      have h25r := h25
      try simp only [hce, l1, t0, t1, dflt, val_dig] at h25
      refine wl_exit ?_
      refine then_e (blk_e (then_n (wl_reg ?_)))
      refine st_pure rfl (.bin rfl rfl (add64 om om)) ?_
      refine mv ?_
      refine st_end nfc_NMul_0 ?_
      refine then_n ?_
      exact ⟨(i + 1, o), _, (show (i + 1) ≤ a.length ∧ (o).length = a.length + b.length ∧ Lim (o) ∧ val (o) = val (a.take (i + 1)) * val b ∧ ∀ p, (i + 1) + b.length ≤ p → (o).getD p 0 = 0 from ⟨by omega, hol, hlo, mul_zero rfl (by omega) hv, fun p hp => hz p (by omega)⟩), (show a.length - (i + 1) < a.length - i from by omega), Weak.of_eq (put_id' (put_id' (put_id' (put_id' (put_id' (put_id' (mk_id' clc_NMul_2) clc_NMul_2) clc_NMul_2) clc_NMul_2) clc_NMul_2) clc_NMul_2) clc_NMul_2)⟩
    · skip
      have h25r := h25
      try simp only [hce, l1, t0, t1, dflt, val_dig] at h25
      refine wl_skip (then_n (wl_seq (wl_reg (asg ?_))))
      refine st_end nfc_NMul_0 ?_
      refine then_n (wl_seq (wl_seq (wl_reg (mv ?_))))
      refine st_pure rfl ln32 ?_
      refine mv ?_
      refine st_end nfc_NMul_0 ?_
      refine then_n (wl_block ?_)
      refine wl_loop (α := Nat × List Nat × Nat) (fun st L => (((((((((((((St.mk L.slot (hp [(16, ⟨1, st.2.1.map u32L, true⟩)])).put (some 0) (.list 1 (a.map u32L))).put (some 1) (.list 1 (b.map u32L))).put (some 5) (.ref 16 1 0 (a.length + b.length))).put (some 17) (.list 1 (a.map u32L))).put (some 18) (nI64 a.length)).put (some 19) (nI64 i)).put (some 6) (nI64 i)).put (some 7) (u32L (a.getD i 0))).put (some 8) (nU64 st.2.2)).put (some 26) (.list 1 (b.map u32L))).put (some 27) (nI64 b.length)).put (some 28) (nI64 st.1))) (fun st => st.1 ≤ b.length ∧ st.2.1.length = a.length + b.length ∧ Lim st.2.1 ∧ st.2.2 < 4294967296 ∧ val st.2.1 + 4294967296 ^ (i + st.1) * st.2.2 = val (a.take i) * val b + 4294967296 ^ i * (a.getD i 0 * val (b.take st.1)) ∧ ∀ p, i + b.length ≤ p → st.2.1.getD p 0 = 0) (fun st => b.length - st.1) (0, o, 0) (show (0) ≤ b.length ∧ (o).length = a.length + b.length ∧ Lim (o) ∧ (0) < 4294967296 ∧ val (o) + 4294967296 ^ (i + (0)) * (0) = val (a.take i) * val b + 4294967296 ^ i * (a.getD i 0 * val (b.take (0))) ∧ ∀ p, i + b.length ≤ p → (o).getD p 0 = 0 from ⟨Nat.zero_le _, hol, hlo, by omega, by rw [hv]; simp [val], hz⟩) ⟨_, Weak.of_eq (put_id' (put_id' (put_id' (put_id' (put_id' (put_id' (put_id' (put_id' (put_id' (put_id' (put_id' (put_id' (mk_id' clc_NMul_2) clc_NMul_2) clc_NMul_2) clc_NMul_2) clc_NMul_2) clc_NMul_2) clc_NMul_2) clc_NMul_2) clc_NMul_2) clc_NMul_2) clc_NMul_2) clc_NMul_2) clc_NMul_2)⟩ ?_
      rintro ⟨j, o, c⟩ L2 hLC
      obtain ⟨hj, hol, hlo, hc, hv, hz⟩ : j ≤ b.length ∧ o.length = a.length + b.length ∧ Lim o ∧ c < 4294967296 ∧ val o + 4294967296 ^ (i + j) * c = val (a.take i) * val b + 4294967296 ^ i * (a.getD i 0 * val (b.take j)) ∧ ∀ p, i + b.length ≤ p → o.getD p 0 = 0 := hLC
      show wpL _ _ _ (((((((((((((St.mk L2.slot (hp [(16, ⟨1, o.map u32L, true⟩)])).put (some 0) (.list 1 (a.map u32L))).put (some 1) (.list 1 (b.map u32L))).put (some 5) (.ref 16 1 0 (a.length + b.length))).put (some 17) (.list 1 (a.map u32L))).put (some 18) (nI64 a.length)).put (some 19) (nI64 i)).put (some 6) (nI64 i)).put (some 7) (u32L (a.getD i 0))).put (some 8) (nU64 c)).put (some 26) (.list 1 (b.map u32L))).put (some 27) (nI64 b.length)).put (some 28) (nI64 j))
      have hyj := getD_lim hb j
      have hzj := getD_lim hlo (i + j)
      have hs := mul_s_lt hc hxi hyj hzj
      have eij : ((i : Int) + (j : Int)).toNat = i + j := by omega
      refine wl_seq (wl_reg ?_)
      refine st_pure rfl (.bin rfl rfl rfl) ?_
      refine st_end nfc_NMul_0 ?_
      refine then_n (wl_seq ?_)
      refine wl_cond rfl (fun h29 => ?_) (fun h29 => ?_)
      · skip
        have h29r := h29
        try simp only [hce, l1, t0, t1, dflt, val_dig] at h29
        refine wl_skip (then_n (wl_seq (wl_block (wl_seq (wl_reg (mv ?_))))))
        refine st_pure rfl ix32 ?_
        refine st_pure rfl ld31 ?_
        refine asg (asg ?_)
        refine st_end nfc_NMul_0 ?_
        refine then_n (wl_seq (wl_reg (mv (mv ?_))))
        refine st_pure rfl (.cv64 Try.underlying31 Try.underlying116 rfl om) ?_
        refine mv ?_
        refine st_pure rfl (.cv64 Try.underlying31 Try.underlying116 rfl om) ?_
        refine st_pure rfl (.bin rfl rfl (mulU om)) ?_
        refine mv (mv (mv ?_))
        refine st_pure rfl (.bin rfl rfl (add64 om om)) ?_
        refine st_pure rfl ix32 ?_
        refine st_pure rfl ld31 ?_
        refine st_pure rfl (.cv64 Try.underlying31 Try.underlying116 rfl om) ?_
        refine st_pure rfl (.bin rfl rfl (addU om)) ?_
        refine st_pure rfl (.bin rfl rfl (addU om)) ?_
        refine asg ?_
        refine st_end nfc_NMul_0 ?_
        refine then_n (wl_seq (wl_reg (mv (mv (mv ?_)))))
        refine st_pure rfl (.bin rfl rfl (add64 om om)) ?_
        refine mv ?_
        refine st_pure rfl (.cv32 Try.underlying116 Try.underlying31 rfl) ?_
        refine st_pure rfl ix32 ?_
        refine st_store rfl (by exact .storeM u32E rfl rfl rfl T31 om) ?_
        refine st_end nfc_NMul_0 ?_
        refine then_n (wl_reg (mv ?_))
        refine st_pure rfl (.sh rfl rfl shr32) ?_
        refine asg ?_
        refine st_end nfc_NMul_0 ?_
        refine blk_n (then_n (wl_reg ?_))
        refine st_pure rfl (.bin rfl rfl (add64 om om)) ?_
        refine mv ?_
        refine st_end nfc_NMul_0 ?_
        refine then_n ?_
        exact ⟨(j + 1, o.set (i + j) ((c + (a.getD i 0 * b.getD j 0 + o.getD (i + j) 0)) % 4294967296), (c + (a.getD i 0 * b.getD j 0 + o.getD (i + j) 0)) / 4294967296), _, (show (j + 1) ≤ b.length ∧ (o.set (i + j) ((c + (a.getD i 0 * b.getD j 0 + o.getD (i + j) 0)) % 4294967296)).length = a.length + b.length ∧ Lim (o.set (i + j) ((c + (a.getD i 0 * b.getD j 0 + o.getD (i + j) 0)) % 4294967296)) ∧ ((c + (a.getD i 0 * b.getD j 0 + o.getD (i + j) 0)) / 4294967296) < 4294967296 ∧ val (o.set (i + j) ((c + (a.getD i 0 * b.getD j 0 + o.getD (i + j) 0)) % 4294967296)) + 4294967296 ^ (i + (j + 1)) * ((c + (a.getD i 0 * b.getD j 0 + o.getD (i + j) 0)) / 4294967296) = val (a.take i) * val b + 4294967296 ^ i * (a.getD i 0 * val (b.take (j + 1))) ∧ ∀ p, i + b.length ≤ p → (o.set (i + j) ((c + (a.getD i 0 * b.getD j 0 + o.getD (i + j) 0)) % 4294967296)).getD p 0 = 0 from ⟨by omega, by simp [hol], lim_set hlo _ _ (Nat.mod_lt _ (by omega)), by omega, mul_inv (by omega) hv rfl, zeros_set (by omega) hz⟩), (show b.length - (j + 1) < b.length - j from by omega), Weak.of_eq (put_id' (put_id' (put_id' (put_id' (put_id' (put_id' (put_id' (put_id' (put_id' (put_id' (put_id' (put_id' (mk_id' clc_NMul_2) clc_NMul_2) clc_NMul_2) clc_NMul_2) clc_NMul_2) clc_NMul_2) clc_NMul_2) clc_NMul_2) clc_NMul_2) clc_NMul_2) clc_NMul_2) clc_NMul_2) clc_NMul_2)⟩
      · skip
        have h29r := h29
        try simp only [hce, l1, t0, t1, dflt, val_dig] at h29
        obtain rfl : j = b.length := by omega
        have eij2 : ((i : Int) + (b.length : Int)).toNat = i + b.length := by omega
        refine wl_exit ?_
        refine then_e (then_e (blk_e (then_n (wl_reg (mv (mv (mv ?_)))))))
        refine st_pure rfl ln32 ?_
        refine st_pure rfl (.bin rfl rfl (add64 om om)) ?_
        refine mv ?_
        refine st_pure rfl (.cv32 Try.underlying116 Try.underlying31 rfl) ?_
        refine st_pure rfl ix32 ?_
        refine st_store rfl (by exact .storeM u32E rfl rfl rfl T31 om) ?_
        refine st_end nfc_NMul_0 ?_
        refine blk_n (then_n (wl_reg ?_))
        refine st_pure rfl (.bin rfl rfl (add64 om om)) ?_
        refine mv ?_
        refine st_end nfc_NMul_0 ?_
        refine then_n ?_
        exact ⟨(i + 1, o.set (i + b.length) (c % 4294967296)), _, (show (i + 1) ≤ a.length ∧ (o.set (i + b.length) (c % 4294967296)).length = a.length + b.length ∧ Lim (o.set (i + b.length) (c % 4294967296)) ∧ val (o.set (i + b.length) (c % 4294967296)) = val (a.take (i + 1)) * val b ∧ ∀ p, (i + 1) + b.length ≤ p → (o.set (i + b.length) (c % 4294967296)).getD p 0 = 0 from ⟨by omega, by simp [hol], lim_set hlo _ _ (Nat.mod_lt _ (by omega)), by rw [Nat.mod_eq_of_lt hc]; exact mul_row (by omega) (by omega) (hz _ (Nat.le_refl _)) rfl rfl hv, zeros_end hz⟩), (show a.length - (i + 1) < a.length - i from by omega), Weak.of_eq (put_id' (put_id' (put_id' (put_id' (put_id' (put_id' (mk_id' clc_NMul_2) clc_NMul_2) clc_NMul_2) clc_NMul_2) clc_NMul_2) clc_NMul_2) clc_NMul_2)⟩
  · skip
    have h20r := h20
    try simp only [hce, l1, t0, t1, dflt, val_dig] at h20
    obtain rfl : i = a.length := by omega
    refine wl_exit ?_
    refine then_e (then_e (blk_e (then_n (wl_seq (wl_reg (mv ?_))))))
    refine st_callPf [16] rfl rfl (.cons im1 .nil) (c_trimD _ (by first | assumption | exact lim_dig _) (by first | omega | (simp; done) | (simp; omega))) ?_
    refine asg ?_
    refine st_end nfc_NMul_0 ?_
    refine then_n (wl_ret ?_)
    rw [List.take_length] at hv
    rw [← hv]
    exact ret1 rfl (by first | exact .pure rfl | exact .pure (limL_pure _) | exact .pure (magL_pure _) | exact .pure (ratE.pure _) | exact .pure (pure_lst u32E _ _) | exact .pure (pure_lst ratE _ _))
theorem nfc_Nsmall_0 {p : Prop} (h : p := by (try simp only [e1, e2, e3, e4, p1, p2, p3, q1, q2, q3, l1, t0, t1, r1, r2, r3, r4, Nat.zero_add, Nat.reduceMul, Nat.reduceAdd, b1, b2, b3, b4, b5, b6, i1, i2, i3, i4, i5, i6, Nat.reduceBEq, dflt, ej, ek]); exact rfl) : p := h
theorem mlc_Nsmall_1 {p : Prop} (h : p := by first | rfl | (simp only [e1, e2, e3, e4, p1, p2, p3, q1, q2, q3, l1, t0, t1, r1, r2, r3, r4, Nat.zero_add, Nat.reduceMul, Nat.reduceAdd, b1, b2, b3, b4, b5, b6, i1, i2, i3, i4, i5, i6, Nat.reduceBEq, dflt, ej, ek]; done) | (simp only [e1, e2, e3, e4, p1, p2, p3, q1, q2, q3, l1, t0, t1, r1, r2, r3, r4, Nat.zero_add, Nat.reduceMul, Nat.reduceAdd, b1, b2, b3, b4, b5, b6, i1, i2, i3, i4, i5, i6, Nat.reduceBEq, dflt, ej, ek]; rfl) | (simp only [e1, e2, e3, e4, p1, p2, p3, q1, q2, q3, l1, t0, t1, r1, r2, r3, r4, Nat.zero_add, Nat.reduceMul, Nat.reduceAdd, b1, b2, b3, b4, b5, b6, i1, i2, i3, i4, i5, i6, Nat.reduceBEq, dflt, ej, ek]; congr 2 <;> omega)) : p := h
theorem clc_Nsmall_2 {p : Prop} (h : p := by first | rfl | (simp only [e1, e2, e3, e4, p1, p2, p3, q1, q2, q3, l1, t0, t1, r1, r2, r3, r4, Nat.zero_add, Nat.reduceMul, Nat.reduceAdd, b1, b2, b3, b4, b5, b6, i1, i2, i3, i4, i5, i6, Nat.reduceBEq, dflt, ej, ek]; done) | (simp only [e1, e2, e3, e4, p1, p2, p3, q1, q2, q3, l1, t0, t1, r1, r2, r3, r4, Nat.zero_add, Nat.reduceMul, Nat.reduceAdd, b1, b2, b3, b4, b5, b6, i1, i2, i3, i4, i5, i6, Nat.reduceBEq, dflt, ej, ek]; rfl) | (simp only [e1, e2, e3, e4, p1, p2, p3, q1, q2, q3, l1, t0, t1, r1, r2, r3, r4, Nat.zero_add, Nat.reduceMul, Nat.reduceAdd, b1, b2, b3, b4, b5, b6, i1, i2, i3, i4, i5, i6, Nat.reduceBEq, dflt, ej, ek]; congr 3 <;> omega) | (simp only [e1, e2, e3, e4, p1, p2, p3, q1, q2, q3, l1, t0, t1, r1, r2, r3, r4, Nat.zero_add, Nat.reduceMul, Nat.reduceAdd, b1, b2, b3, b4, b5, b6, i1, i2, i3, i4, i5, i6, Nat.reduceBEq, dflt, ej, ek]; congr 2 <;> omega)) : p := h
namespace H_c_Nsmall
theorem om {p : Prop} (h : p := by first | (simp only [e1, e2, e3, e4, p1, p2, p3, q1, q2, q3, l1, t0, t1, r1, r2, r3, r4, Nat.zero_add, Nat.reduceMul, Nat.reduceAdd, b1, b2, b3, b4, b5, b6, i1, i2, i3, i4, i5, i6, Nat.reduceBEq, dflt, ej, ek]; omega) | omega) : p := h
end H_c_Nsmall
open H_c_Nsmall in
set_option maxHeartbeats 4000000 in
set_option maxRecDepth 100000 in
theorem c_Nsmall (a : List Nat) (d : Nat) (ha : Lim a) (hla : a.length ≤ 1099511627776) (hd0 : 0 < d) (hd : d < 4294967296) : CallP Try.prog 147 [limL a, nU32 d] (.tup [magL (val a / d), nU32 (val a % d)]) := by
  unfold limL
  refine callP_of fol Try.func147 rfl (by decide +kernel) (by decide +kernel) (Nat.le_of_ble_eq_true rfl) tm0 ?_
  have ej : True := trivial
  have ek : True := trivial
  refine wl_seq (wl_reg (asg (asg ?_)))
  refine st_end nfc_Nsmall_0 ?_
  refine then_n (wl_seq (wl_reg (mv ?_)))
  refine st_pure rfl ln32 ?_
  refine st_alloc rfl rfl (.makeM (n := a.length) (m := a.length) u32E Try.underlying32 Z31 T31 B31 mlc_Nsmall_1 mlc_Nsmall_1 om om om) ?_
  refine asg ?_
  refine st_end nfc_Nsmall_0 ?_
  refine then_n (wl_seq (wl_reg (asg ?_)))
  refine st_end nfc_Nsmall_0 ?_
  refine then_n (wl_seq (wl_seq (wl_reg (mv ?_))))
  refine st_pure rfl ln32 ?_
  refine st_pure rfl (.bin rfl rfl (sub64 om om)) ?_
  refine asg ?_
  refine st_end nfc_Nsmall_0 ?_
  refine then_n (wl_block ?_)
  refine wl_loop (α := Nat × List Nat × Nat) (fun st L => ((((((St.mk L.slot (hp [(11, ⟨1, st.2.1.map u32L, true⟩)])).put (some 0) (.list 1 (a.map u32L))).put (some 1) (nU32 d)).put (some 6) (.ref 11 1 0 a.length)).put (some 7) (nU64 st.2.2)).put (some 8) (iL ((st.1 : Int) - 1)))) (fun st => st.1 ≤ a.length ∧ st.2.1.length = a.length ∧ Lim st.2.1 ∧ st.2.2 < d ∧ val (st.2.1.drop st.1) * d + st.2.2 = val (a.drop st.1)) (fun st => st.1) (a.length, List.replicate a.length 0, 0) (show (a.length) ≤ a.length ∧ (List.replicate a.length 0).length = a.length ∧ Lim (List.replicate a.length 0) ∧ (0) < d ∧ val ((List.replicate a.length 0).drop (a.length)) * d + (0) = val (a.drop (a.length)) from ⟨Nat.le_refl _, by simp, lim_zeros _, hd0, by simp [val]⟩) ⟨_, Weak.of_eq (put_id' (put_id' (put_id' (put_id' (put_id' (mk_id' clc_Nsmall_2) clc_Nsmall_2) clc_Nsmall_2) clc_Nsmall_2) clc_Nsmall_2) clc_Nsmall_2)⟩ ?_
  rintro ⟨k, q, r⟩ L1 hLC
  obtain ⟨hk, hql, hlq, hr, hv⟩ : k ≤ a.length ∧ q.length = a.length ∧ Lim q ∧ r < d ∧ val (q.drop k) * d + r = val (a.drop k) := hLC
  show wpL _ _ _ ((((((St.mk L1.slot (hp [(11, ⟨1, q.map u32L, true⟩)])).put (some 0) (.list 1 (a.map u32L))).put (some 1) (nU32 d)).put (some 6) (.ref 11 1 0 a.length)).put (some 7) (nU64 r)).put (some 8) (iL ((k : Int) - 1)))
  refine wl_seq (wl_seq (wl_reg (mv ?_)))
  refine st_pure rfl (.bin rfl rfl rfl) ?_
  refine st_end nfc_Nsmall_0 ?_
  refine then_n ?_
  refine wl_cond rfl (fun h16 => ?_) (fun h16 => ?_)
  · skip
    have h16r := h16
    try simp only [hce, l1, t0, t1, dflt, val_dig] at h16
    obtain ⟨j, rfl⟩ : ∃ j, k = j + 1 := ⟨k - 1, by omega⟩
    have ej : (((j + 1 : Nat) : Int) - 1).toNat = j := by omega
    have ek : (((j + 1 : Nat) : Int) - 1) = j := by omega
    have hxj := getD_lim ha j
    refine wl_skip (then_n (wl_seq (wl_block (wl_seq (wl_reg (mv ?_))))))
    refine st_pure rfl (.sh rfl rfl (shl32 om)) ?_
    refine mv (mv ?_)
    refine st_pure rfl ix32 ?_
    refine st_pure rfl ld31 ?_
    refine st_pure rfl (.cv64 Try.underlying31 Try.underlying116 rfl om) ?_
    refine st_pure rfl (.bin rfl rfl (orU om om)) ?_
    refine asg ?_
    refine st_end nfc_Nsmall_0 ?_
    refine then_n (wl_seq (wl_reg (mv (mv (mv (mv ?_))))))
    refine st_pure rfl (.cv64 Try.underlying31 Try.underlying116 rfl om) ?_
    refine st_pure rfl (.bin rfl rfl (quoU (by omega) (by omega))) ?_
    refine st_pure rfl (.cv32 Try.underlying116 Try.underlying31 rfl) ?_
    refine st_pure rfl ix32 ?_
    refine st_store rfl (by exact .storeM u32E rfl rfl rfl T31 om) ?_
    refine st_end nfc_Nsmall_0 ?_
    refine then_n (wl_reg (mv (mv ?_)))
    refine st_pure rfl (.cv64 Try.underlying31 Try.underlying116 rfl om) ?_
    refine st_pure rfl (.bin rfl rfl (remU om)) ?_
    refine asg ?_
    refine st_end nfc_Nsmall_0 ?_
    refine blk_n (then_n (wl_reg (mv ?_)))
    refine st_pure rfl (.bin rfl rfl (sub64 om om)) ?_
    refine asg ?_
    refine st_end nfc_Nsmall_0 ?_
    refine then_n ?_
    exact ⟨(j, q.set j ((r * 4294967296 + a.getD j 0) / d % 4294967296), (r * 4294967296 + a.getD j 0) % d), _, (show (j) ≤ a.length ∧ (q.set j ((r * 4294967296 + a.getD j 0) / d % 4294967296)).length = a.length ∧ Lim (q.set j ((r * 4294967296 + a.getD j 0) / d % 4294967296)) ∧ ((r * 4294967296 + a.getD j 0) % d) < d ∧ val ((q.set j ((r * 4294967296 + a.getD j 0) / d % 4294967296)).drop (j)) * d + ((r * 4294967296 + a.getD j 0) % d) = val (a.drop (j)) from ⟨by omega, by simp [hql], lim_set hlq _ _ (Nat.mod_lt _ (by omega)), Nat.mod_lt _ hd0, by rw [Nat.mod_eq_of_lt (small_lt hr hxj)]; exact small_inv (by omega) hql hv rfl⟩), (show (j) < j + 1 from by omega), Weak.of_eq (put_id' (put_id' (put_id' (put_id' (put_id' (mk_id' clc_Nsmall_2) clc_Nsmall_2) clc_Nsmall_2) clc_Nsmall_2) clc_Nsmall_2) clc_Nsmall_2)⟩
  · skip
    have h16r := h16
    try simp only [hce, l1, t0, t1, dflt, val_dig] at h16
    obtain rfl : k = 0 := by omega
    have ej : True := trivial
    have ek : True := trivial
    refine wl_exit ?_
    refine then_e (then_e (blk_e (then_n (wl_seq (wl_reg (mv ?_))))))
    refine st_callPf [11] rfl rfl (.cons im1 .nil) (c_trimD _ (by first | assumption | exact lim_dig _) (by first | omega | (simp; done) | (simp; omega))) ?_
    refine mv ?_
    refine st_pure rfl (.cv32 Try.underlying116 Try.underlying31 rfl) ?_
    refine asg (asg ?_)
    refine st_end nfc_Nsmall_0 ?_
    refine then_n (wl_ret ?_)
    obtain ⟨E1, E2⟩ := small_end hd0 hr hlq hv
    rw [trimL_dig hlq] at E1
    have E3 := congrArg val E1
    rw [val_dig, val_dig] at E3
    rw [← E3, ← E2]
    have E4 : r % 4294967296 = r := Nat.mod_eq_of_lt (by omega)
    refine ret2 rfl (.pure (magL_pure _)) rfl ?_
    show Imm _ (nU32 (r % 4294967296)) (nU32 r)
    rw [E4]
    exact .pure rfl
end Go.Proofs.Ythhdcfhaldcheaa
