/- Magnitudes: contracts of sums. -/
import Derived.Test.YthhdcfhaldcheaaN1
set_option linter.unusedVariables false
set_option linter.unusedSimpArgs false
namespace Go.Proofs.Ythhdcfhaldcheaa
open Go.Lg
theorem nfc_Add_0 {p : Prop} (h : p := by (try simp only [e1, e2, e3, e4, p1, p2, p3, q1, q2, q3, l1, t0, t1, r1, r2, r3, r4, Nat.zero_add, Nat.reduceMul, Nat.reduceAdd, b1, b2, b3, b4, b5, b6, i1, i2, i3, i4, i5, i6, Nat.reduceBEq, dflt]); exact rfl) : p := h
theorem clc_Add_1 {p : Prop} (h : p := by first | rfl | (simp only [e1, e2, e3, e4, p1, p2, p3, q1, q2, q3, l1, t0, t1, r1, r2, r3, r4, Nat.zero_add, Nat.reduceMul, Nat.reduceAdd, b1, b2, b3, b4, b5, b6, i1, i2, i3, i4, i5, i6, Nat.reduceBEq, dflt]; done) | (simp only [e1, e2, e3, e4, p1, p2, p3, q1, q2, q3, l1, t0, t1, r1, r2, r3, r4, Nat.zero_add, Nat.reduceMul, Nat.reduceAdd, b1, b2, b3, b4, b5, b6, i1, i2, i3, i4, i5, i6, Nat.reduceBEq, dflt]; rfl) | (simp only [e1, e2, e3, e4, p1, p2, p3, q1, q2, q3, l1, t0, t1, r1, r2, r3, r4, Nat.zero_add, Nat.reduceMul, Nat.reduceAdd, b1, b2, b3, b4, b5, b6, i1, i2, i3, i4, i5, i6, Nat.reduceBEq, dflt]; congr 3 <;> omega) | (simp only [e1, e2, e3, e4, p1, p2, p3, q1, q2, q3, l1, t0, t1, r1, r2, r3, r4, Nat.zero_add, Nat.reduceMul, Nat.reduceAdd, b1, b2, b3, b4, b5, b6, i1, i2, i3, i4, i5, i6, Nat.reduceBEq, dflt]; congr 2 <;> omega)) : p := h
theorem mlc_Add_2 {p : Prop} (h : p := by first | rfl | (simp only [e1, e2, e3, e4, p1, p2, p3, q1, q2, q3, l1, t0, t1, r1, r2, r3, r4, Nat.zero_add, Nat.reduceMul, Nat.reduceAdd, b1, b2, b3, b4, b5, b6, i1, i2, i3, i4, i5, i6, Nat.reduceBEq, dflt]; done) | (simp only [e1, e2, e3, e4, p1, p2, p3, q1, q2, q3, l1, t0, t1, r1, r2, r3, r4, Nat.zero_add, Nat.reduceMul, Nat.reduceAdd, b1, b2, b3, b4, b5, b6, i1, i2, i3, i4, i5, i6, Nat.reduceBEq, dflt]; rfl) | (simp only [e1, e2, e3, e4, p1, p2, p3, q1, q2, q3, l1, t0, t1, r1, r2, r3, r4, Nat.zero_add, Nat.reduceMul, Nat.reduceAdd, b1, b2, b3, b4, b5, b6, i1, i2, i3, i4, i5, i6, Nat.reduceBEq, dflt]; congr 2 <;> omega)) : p := h
namespace H_c_Add
theorem om {p : Prop} (h : p := by first | (simp only [e1, e2, e3, e4, p1, p2, p3, q1, q2, q3, l1, t0, t1, r1, r2, r3, r4, Nat.zero_add, Nat.reduceMul, Nat.reduceAdd, b1, b2, b3, b4, b5, b6, i1, i2, i3, i4, i5, i6, Nat.reduceBEq, dflt]; omega) | omega) : p := h
end H_c_Add
open H_c_Add in
set_option maxHeartbeats 4000000 in
set_option maxRecDepth 100000 in
theorem c_Add (a b : List Nat) (ha : Lim a) (hb : Lim b) (hla : a.length ≤ 1099511627776) (hlb : b.length ≤ 1099511627776) : CallP Try.prog 130 [limL a, limL b] (magL (val a + val b)) := by
  unfold limL magL
  refine callP_of fol Try.func130 rfl (by decide +kernel) (by decide +kernel) (Nat.le_of_ble_eq_true rfl) tm0 ?_
  refine wl_seq (wl_reg (asg ?_))
  refine st_end nfc_Add_0 ?_
  refine then_n (wl_seq (wl_seq (wl_reg (mv ?_))))
  refine st_pure rfl ln32 ?_
  refine mv ?_
  refine st_pure rfl ln32 ?_
  refine st_pure rfl (.bin rfl rfl rfl) ?_
  refine st_end nfc_Add_0 ?_
  refine then_n ?_
  refine wl_cut (fun L => ∃ (x : List Nat) (y : List Nat) (L1 : St), (Lim x ∧ Lim y ∧ x.length ≤ 1099511627776 ∧ y.length ≤ x.length ∧ val a + val b = val x + val y) ∧ L = (((St.mk L1.slot (hp [])).put (some 0) (.list 1 (x.map u32L))).put (some 1) (.list 1 (y.map u32L)))) ?_ ?_
  · skip
    refine wl_cond rfl (fun h13 => ?_) (fun h13 => ?_)
    · skip
      have h13r := h13
      try simp only [hce, l1, t0, t1, dflt, val_dig] at h13
      refine wl_reg (mv (mv (asg (asg ?_))))
      refine st_end nfc_Add_0 ?_
      refine then_n ?_
      exact ⟨b, a, _, ⟨hb, ha, hlb, by omega, Nat.add_comm _ _⟩, ((put_id' (put_id' (mk_id' clc_Add_1) clc_Add_1) clc_Add_1)).symm⟩
    · skip
      have h13r := h13
      try simp only [hce, l1, t0, t1, dflt, val_dig] at h13
      refine wl_skip (then_n ?_)
      exact ⟨a, b, _, ⟨ha, hb, hla, by omega, rfl⟩, ((put_id' (put_id' (mk_id' clc_Add_1) clc_Add_1) clc_Add_1)).symm⟩
  · skip
    rintro _ ⟨x, y, LC13, ⟨hx, hy, hlx, hyx, hxy⟩, rfl⟩
    rw [hxy]
    refine then_n (wl_seq (wl_reg (mv ?_)))
    refine st_pure rfl ln32 ?_
    refine st_pure rfl (.bin rfl rfl (add64 om om)) ?_
    refine st_alloc rfl rfl (.makeM (n := x.length + 1) (m := x.length + 1) u32E Try.underlying32 Z31 T31 B31 mlc_Add_2 mlc_Add_2 om om om) ?_
    refine asg ?_
    refine st_end nfc_Add_0 ?_
    refine then_n (wl_seq (wl_reg (asg ?_)))
    refine st_end nfc_Add_0 ?_
    refine then_n (wl_seq (wl_seq (wl_reg (mv ?_))))
    refine st_pure rfl ln32 ?_
    refine mv ?_
    refine st_end nfc_Add_0 ?_
    refine then_n (wl_block ?_)
    refine wl_loop (α := Nat × List Nat × Nat) (fun st L => ((((((((St.mk L.slot (hp [(19, ⟨1, st.2.1.map u32L, true⟩)])).put (some 0) (.list 1 (x.map u32L))).put (some 1) (.list 1 (y.map u32L))).put (some 5) (.ref 19 1 0 (x.length + 1))).put (some 6) (nU64 st.2.2)).put (some 20) (.list 1 (x.map u32L))).put (some 21) (nI64 x.length)).put (some 22) (nI64 st.1))) (fun st => st.1 ≤ x.length ∧ st.2.1.length = x.length + 1 ∧ st.2.2 ≤ 1 ∧ Lim st.2.1 ∧ val (st.2.1.take st.1) + 4294967296 ^ st.1 * st.2.2 = val (x.take st.1) + val (y.take st.1)) (fun st => x.length - st.1) (0, List.replicate (x.length + 1) 0, 0) (show (0) ≤ x.length ∧ (List.replicate (x.length + 1) 0).length = x.length + 1 ∧ (0) ≤ 1 ∧ Lim (List.replicate (x.length + 1) 0) ∧ val ((List.replicate (x.length + 1) 0).take (0)) + 4294967296 ^ (0) * (0) = val (x.take (0)) + val (y.take (0)) from ⟨Nat.zero_le _, by simp, by omega, lim_zeros _, by simp [val]⟩) ⟨_, Weak.of_eq (put_id' (put_id' (put_id' (put_id' (put_id' (put_id' (put_id' (mk_id' clc_Add_1) clc_Add_1) clc_Add_1) clc_Add_1) clc_Add_1) clc_Add_1) clc_Add_1) clc_Add_1)⟩ ?_
    rintro ⟨k, o, c⟩ L1 hLC
    obtain ⟨hk, hol, hc, hlo, hv⟩ : k ≤ x.length ∧ o.length = x.length + 1 ∧ c ≤ 1 ∧ Lim o ∧ val (o.take k) + 4294967296 ^ k * c = val (x.take k) + val (y.take k) := hLC
    show wpL _ _ _ ((((((((St.mk L1.slot (hp [(19, ⟨1, o.map u32L, true⟩)])).put (some 0) (.list 1 (x.map u32L))).put (some 1) (.list 1 (y.map u32L))).put (some 5) (.ref 19 1 0 (x.length + 1))).put (some 6) (nU64 c)).put (some 20) (.list 1 (x.map u32L))).put (some 21) (nI64 x.length)).put (some 22) (nI64 k))
    have hxk := getD_lim hx k
    have hyk := getD_lim hy k
    refine wl_seq (wl_reg ?_)
    refine st_pure rfl (.bin rfl rfl rfl) ?_
    refine st_end nfc_Add_0 ?_
    refine then_n (wl_seq ?_)
    refine wl_cond rfl (fun h23 => ?_) (fun h23 => ?_)
    · skip
      have h23r := h23
      try simp only [hce, l1, t0, t1, dflt, val_dig] at h23
      refine wl_skip (then_n (wl_seq (wl_block (wl_seq (wl_reg (mv ?_))))))
      refine st_pure rfl ix32 ?_
      refine st_pure rfl ld31 ?_
      refine asg (asg ?_)
      refine st_end nfc_Add_0 ?_
      refine then_n (wl_seq (wl_reg (mv (mv ?_))))
      refine st_pure rfl (.cv64 Try.underlying31 Try.underlying116 rfl om) ?_
      refine st_pure rfl (.bin rfl rfl (addU om)) ?_
      refine asg ?_
      refine st_end nfc_Add_0 ?_
      refine then_n (wl_seq (wl_seq (wl_reg (mv (mv ?_)))))
      refine st_pure rfl ln32 ?_
      refine st_pure rfl (.bin rfl rfl rfl) ?_
      refine st_end nfc_Add_0 ?_
      refine then_n ?_
      refine wl_cond rfl (fun h34 => ?_) (fun h34 => ?_)
      · skip
        have h34r := h34
        try simp only [hce, l1, t0, t1, dflt, val_dig] at h34
        refine wl_reg (mv (mv (mv ?_)))
        refine st_pure rfl ix32 ?_
        refine st_pure rfl ld31 ?_
        refine st_pure rfl (.cv64 Try.underlying31 Try.underlying116 rfl om) ?_
        refine st_pure rfl (.bin rfl rfl (addU om)) ?_
        refine asg ?_
        refine st_end nfc_Add_0 ?_
        refine then_n (wl_seq (wl_reg (mv (mv (mv ?_)))))
        refine st_pure rfl (.cv32 Try.underlying116 Try.underlying31 rfl) ?_
        refine st_pure rfl ix32 ?_
        refine st_store rfl (by exact .storeM u32E rfl rfl rfl T31 om) ?_
        refine st_end nfc_Add_0 ?_
        refine then_n (wl_reg (mv ?_))
        refine st_pure rfl (.sh rfl rfl shr32) ?_
        refine asg ?_
        refine st_end nfc_Add_0 ?_
        refine blk_n (then_n (wl_reg ?_))
        refine st_pure rfl (.bin rfl rfl (add64 om om)) ?_
        refine mv ?_
        refine st_end nfc_Add_0 ?_
        refine then_n ?_
        exact ⟨(k + 1, o.set k ((c + x.getD k 0 + y.getD k 0) % 4294967296), (c + x.getD k 0 + y.getD k 0) / 4294967296), _, (show (k + 1) ≤ x.length ∧ (o.set k ((c + x.getD k 0 + y.getD k 0) % 4294967296)).length = x.length + 1 ∧ ((c + x.getD k 0 + y.getD k 0) / 4294967296) ≤ 1 ∧ Lim (o.set k ((c + x.getD k 0 + y.getD k 0) % 4294967296)) ∧ val ((o.set k ((c + x.getD k 0 + y.getD k 0) % 4294967296)).take (k + 1)) + 4294967296 ^ (k + 1) * ((c + x.getD k 0 + y.getD k 0) / 4294967296) = val (x.take (k + 1)) + val (y.take (k + 1)) from ⟨by omega, by simp [hol], by omega, lim_set hlo _ _ (Nat.mod_lt _ (by omega)), add_inv (by omega) hv rfl⟩), (show x.length - (k + 1) < x.length - k from by omega), Weak.of_eq (put_id' (put_id' (put_id' (put_id' (put_id' (put_id' (put_id' (mk_id' clc_Add_1) clc_Add_1) clc_Add_1) clc_Add_1) clc_Add_1) clc_Add_1) clc_Add_1) clc_Add_1)⟩
      · skip
        have h34r := h34
        try simp only [hce, l1, t0, t1, dflt, val_dig] at h34
        refine wl_skip (then_n (wl_seq (wl_reg (mv (mv (mv ?_))))))
        refine st_pure rfl (.cv32 Try.underlying116 Try.underlying31 rfl) ?_
        refine st_pure rfl ix32 ?_
        refine st_store rfl (by exact .storeM u32E rfl rfl rfl T31 om) ?_
        refine st_end nfc_Add_0 ?_
        refine then_n (wl_reg (mv ?_))
        refine st_pure rfl (.sh rfl rfl shr32) ?_
        refine asg ?_
        refine st_end nfc_Add_0 ?_
        refine blk_n (then_n (wl_reg ?_))
        refine st_pure rfl (.bin rfl rfl (add64 om om)) ?_
        refine mv ?_
        refine st_end nfc_Add_0 ?_
        refine then_n ?_
        exact ⟨(k + 1, o.set k ((c + x.getD k 0) % 4294967296), (c + x.getD k 0) / 4294967296), _, (show (k + 1) ≤ x.length ∧ (o.set k ((c + x.getD k 0) % 4294967296)).length = x.length + 1 ∧ ((c + x.getD k 0) / 4294967296) ≤ 1 ∧ Lim (o.set k ((c + x.getD k 0) % 4294967296)) ∧ val ((o.set k ((c + x.getD k 0) % 4294967296)).take (k + 1)) + 4294967296 ^ (k + 1) * ((c + x.getD k 0) / 4294967296) = val (x.take (k + 1)) + val (y.take (k + 1)) from ⟨by omega, by simp [hol], by omega, lim_set hlo _ _ (Nat.mod_lt _ (by omega)), add_inv (by omega) hv (by rw [getD_ge y k (by omega)]; rfl)⟩), (show x.length - (k + 1) < x.length - k from by omega), Weak.of_eq (put_id' (put_id' (put_id' (put_id' (put_id' (put_id' (put_id' (mk_id' clc_Add_1) clc_Add_1) clc_Add_1) clc_Add_1) clc_Add_1) clc_Add_1) clc_Add_1) clc_Add_1)⟩
    · skip
      have h23r := h23
      try simp only [hce, l1, t0, t1, dflt, val_dig] at h23
      obtain rfl : k = x.length := by omega
      refine wl_exit ?_
      refine then_e (then_e (blk_e (then_n (wl_seq (wl_reg (mv (mv ?_)))))))
      refine st_pure rfl ln32 ?_
      refine mv ?_
      refine st_pure rfl (.cv32 Try.underlying116 Try.underlying31 rfl) ?_
      refine st_pure rfl ix32 ?_
      refine st_store rfl (by exact .storeM u32E rfl rfl rfl T31 om) ?_
      refine st_end nfc_Add_0 ?_
      refine then_n (wl_seq (wl_reg (mv ?_)))
      refine st_callPf [19] rfl rfl (.cons im1 .nil) (c_trim _ (by first | omega | (simp; done) | (simp; omega))) ?_
      refine asg ?_
      refine st_end nfc_Add_0 ?_
      refine then_n (wl_ret ?_)
      rw [← add_end (c := c % 4294967296) hyx hol hlo (by omega) (by rw [Nat.mod_eq_of_lt (by omega)]; exact hv)]
      exact ret1 rfl (.pure (limL_pure _))
theorem c_trimD (l : List Nat) (h : Lim l) (hl : l.length ≤ 4611686018427387904) : CallP Try.prog 122 [limL l] (magL (val l)) := by
  have := c_trim l hl
  rwa [trimL_dig h] at this
theorem nfc_NValid_0 {p : Prop} (h : p := by (try simp only [e1, e2, e3, e4, p1, p2, p3, q1, q2, q3, l1, t0, t1, r1, r2, r3, r4, Nat.zero_add, Nat.reduceMul, Nat.reduceAdd, b1, b2, b3, b4, b5, b6, i1, i2, i3, i4, i5, i6, Nat.reduceBEq, dflt, ej]); exact rfl) : p := h
namespace H_c_NValid
theorem om {p : Prop} (h : p := by first | (simp only [e1, e2, e3, e4, p1, p2, p3, q1, q2, q3, l1, t0, t1, r1, r2, r3, r4, Nat.zero_add, Nat.reduceMul, Nat.reduceAdd, b1, b2, b3, b4, b5, b6, i1, i2, i3, i4, i5, i6, Nat.reduceBEq, dflt, ej]; omega) | omega) : p := h
end H_c_NValid
open H_c_NValid in
set_option maxHeartbeats 1000000 in
set_option maxRecDepth 100000 in
theorem c_NValid (a : List Nat) (hl : a.length ≤ 4611686018427387904) : CallP Try.prog 95 [limL a] (bL (decide (a.length = 0 ∨ a.getD (a.length - 1) 0 ≠ 0))) := by
  unfold limL
  refine callP_of fol Try.func95 rfl (by decide +kernel) (by decide +kernel) (Nat.le_of_ble_eq_true rfl) tm0 ?_
  have ej : True := trivial
  refine wl_seq (wl_reg (asg ?_))
  refine st_end nfc_NValid_0 ?_
  refine then_n (wl_seq (wl_reg (mv ?_)))
  refine st_pure rfl ln32 ?_
  refine st_pure rfl (.bin rfl rfl rfl) ?_
  refine mv ?_
  refine opsL_split (d := 6) rfl (fun h6 => ?_) (fun h6 => ?_)
  · skip
    have h6r := h6
    try simp only [hce, l1, t0, t1, dflt, val_dig] at h6
    have ej : True := trivial
    refine st_skip (guardX (v := true) rfl rfl (h6r) rfl) ?_
    refine st_skip (guardX (v := true) rfl rfl (h6r) rfl) ?_
    refine st_skip (guardX (v := true) rfl rfl (h6r) rfl) ?_
    refine st_skip (guardX (v := true) rfl rfl (h6r) rfl) ?_
    refine st_skip (guardX (v := true) rfl rfl (h6r) rfl) ?_
    refine st_skip (guardX (v := true) rfl rfl (h6r) rfl) ?_
    refine st_skip (guardX (v := true) rfl rfl (h6r) rfl) ?_
    refine st_pure rfl (.pickT rfl (h6r)) ?_
    refine asg ?_
    refine st_end nfc_NValid_0 ?_
    refine then_n (wl_ret ?_)
    refine ret1 ?_ (.pure rfl)
    simp only [e1, e2, e3, e4, p1, p2, p3, q1, q2, q3, Nat.reduceBEq]
    congr 2
    first | (symm; rw [decide_eq_true_iff]; omega) | (rw [Bool.eq_iff_iff, bne_iff_ne, decide_eq_true_iff]; omega)
  · skip
    have h6r := h6
    try simp only [hce, l1, t0, t1, dflt, val_dig] at h6
    have ej : ((a.length : Int) - 1).toNat = a.length - 1 := by omega
    refine st_pure (guardX (v := false) rfl rfl (h6r) rfl) (.move _) ?_
    refine st_pure (guardX (v := false) rfl rfl (h6r) rfl) (.move _) ?_
    refine st_pure (guardX (v := false) rfl rfl (h6r) rfl) ln32 ?_
    refine st_pure (guardX (v := false) rfl rfl (h6r) rfl) (.bin rfl rfl (sub64 om om)) ?_
    refine st_pure (guardX (v := false) rfl rfl (h6r) rfl) ix32 ?_
    refine st_pure (guardX (v := false) rfl rfl (h6r) rfl) ld31 ?_
    refine st_pure (guardX (v := false) rfl rfl (h6r) rfl) (.bin rfl rfl rfl) ?_
    refine st_pure rfl (.pickF rfl (h6r)) ?_
    refine asg ?_
    refine st_end nfc_NValid_0 ?_
    refine then_n (wl_ret ?_)
    refine ret1 ?_ (.pure rfl)
    simp only [e1, e2, e3, e4, p1, p2, p3, q1, q2, q3, Nat.reduceBEq]
    congr 2
    first | (symm; rw [decide_eq_true_iff]; omega) | (rw [Bool.eq_iff_iff, bne_iff_ne, decide_eq_true_iff]; omega)
theorem nfc_word_0 {p : Prop} (h : p := by (try simp only [e1, e2, e3, e4, p1, p2, p3, q1, q2, q3, l1, t0, t1, r1, r2, r3, r4, Nat.zero_add, Nat.reduceMul, Nat.reduceAdd, b1, b2, b3, b4, b5, b6, i1, i2, i3, i4, i5, i6, Nat.reduceBEq, dflt, ej, ek]); exact rfl) : p := h
theorem clc_word_1 {p : Prop} (h : p := by first | rfl | (simp only [e1, e2, e3, e4, p1, p2, p3, q1, q2, q3, l1, t0, t1, r1, r2, r3, r4, Nat.zero_add, Nat.reduceMul, Nat.reduceAdd, b1, b2, b3, b4, b5, b6, i1, i2, i3, i4, i5, i6, Nat.reduceBEq, dflt, ej, ek]; done) | (simp only [e1, e2, e3, e4, p1, p2, p3, q1, q2, q3, l1, t0, t1, r1, r2, r3, r4, Nat.zero_add, Nat.reduceMul, Nat.reduceAdd, b1, b2, b3, b4, b5, b6, i1, i2, i3, i4, i5, i6, Nat.reduceBEq, dflt, ej, ek]; rfl) | (simp only [e1, e2, e3, e4, p1, p2, p3, q1, q2, q3, l1, t0, t1, r1, r2, r3, r4, Nat.zero_add, Nat.reduceMul, Nat.reduceAdd, b1, b2, b3, b4, b5, b6, i1, i2, i3, i4, i5, i6, Nat.reduceBEq, dflt, ej, ek]; congr 3 <;> omega) | (simp only [e1, e2, e3, e4, p1, p2, p3, q1, q2, q3, l1, t0, t1, r1, r2, r3, r4, Nat.zero_add, Nat.reduceMul, Nat.reduceAdd, b1, b2, b3, b4, b5, b6, i1, i2, i3, i4, i5, i6, Nat.reduceBEq, dflt, ej, ek]; congr 2 <;> omega)) : p := h
namespace H_c_word
theorem om {p : Prop} (h : p := by first | (simp only [e1, e2, e3, e4, p1, p2, p3, q1, q2, q3, l1, t0, t1, r1, r2, r3, r4, Nat.zero_add, Nat.reduceMul, Nat.reduceAdd, b1, b2, b3, b4, b5, b6, i1, i2, i3, i4, i5, i6, Nat.reduceBEq, dflt, ej, ek]; omega) | omega) : p := h
end H_c_word
open H_c_word in
set_option maxHeartbeats 1000000 in
set_option maxRecDepth 100000 in
theorem c_word (a : List Nat) (h : Lim a) (hl : a.length ≤ 2) : CallP Try.prog 126 [limL a] (nU64 (val a)) := by
  unfold limL
  refine callP_of fol Try.func126 rfl (by decide +kernel) (by decide +kernel) (Nat.le_of_ble_eq_true rfl) tm0 ?_
  have ej : True := trivial
  have ek : True := trivial
  refine wl_seq (wl_reg (asg ?_))
  refine st_end nfc_word_0 ?_
  refine then_n (wl_seq (wl_reg (asg ?_)))
  refine st_end nfc_word_0 ?_
  refine then_n (wl_seq (wl_seq (wl_reg (mv ?_))))
  refine st_pure rfl ln32 ?_
  refine st_pure rfl (.bin rfl rfl (sub64 om om)) ?_
  refine asg ?_
  refine st_end nfc_word_0 ?_
  refine then_n (wl_block ?_)
  refine wl_loop (α := Nat × Nat) (fun st L => ((((St.mk L.slot (hp [])).put (some 0) (.list 1 (a.map u32L))).put (some 3) (nU64 st.2)).put (some 4) (iL ((st.1 : Int) - 1)))) (fun st => st.1 ≤ a.length ∧ st.2 = val (a.drop st.1)) (fun st => st.1) (a.length, 0) (show (a.length) ≤ a.length ∧ (0) = val (a.drop (a.length)) from ⟨Nat.le_refl _, by simp [val]⟩) ⟨_, Weak.of_eq (put_id' (put_id' (put_id' (mk_id' clc_word_1) clc_word_1) clc_word_1) clc_word_1)⟩ ?_
  rintro ⟨k, n⟩ L1 hLC
  obtain ⟨hk, hn⟩ : k ≤ a.length ∧ n = val (a.drop k) := hLC
  show wpL _ _ _ ((((St.mk L1.slot (hp [])).put (some 0) (.list 1 (a.map u32L))).put (some 3) (nU64 n)).put (some 4) (iL ((k : Int) - 1)))
  refine wl_seq (wl_seq (wl_reg (mv ?_)))
  refine st_pure rfl (.bin rfl rfl rfl) ?_
  refine st_end nfc_word_0 ?_
  refine then_n ?_
  refine wl_cond rfl (fun h9 => ?_) (fun h9 => ?_)
  · skip
    have h9r := h9
    try simp only [hce, l1, t0, t1, dflt, val_dig] at h9
    obtain ⟨j, rfl⟩ : ∃ j, k = j + 1 := ⟨k - 1, by omega⟩
    have ej : (((j + 1 : Nat) : Int) - 1).toNat = j := by omega
    have ek : (((j + 1 : Nat) : Int) - 1) = j := by omega
    have hb := getD_lim h j
    have hn2 : n < 4294967296 := by have := val_drop_lt h (k := j + 1) (j := 1) (by omega); rw [hn]; simpa using this
    refine wl_skip (then_n (wl_seq (wl_block (wl_reg (mv ?_)))))
    refine st_pure rfl (.sh rfl rfl (shl32 om)) ?_
    refine mv (mv ?_)
    refine st_pure rfl ix32 ?_
    refine st_pure rfl ld31 ?_
    refine st_pure rfl (.cv64 Try.underlying31 Try.underlying116 rfl om) ?_
    refine st_pure rfl (.bin rfl rfl (orU om om)) ?_
    refine asg ?_
    refine st_end nfc_word_0 ?_
    refine blk_n (then_n (wl_reg (mv ?_)))
    refine st_pure rfl (.bin rfl rfl (sub64 om om)) ?_
    refine asg ?_
    refine st_end nfc_word_0 ?_
    refine then_n ?_
    exact ⟨(j, n * 4294967296 + a.getD j 0), _, (show (j) ≤ a.length ∧ (n * 4294967296 + a.getD j 0) = val (a.drop (j)) from ⟨by omega, by rw [val_drop (by omega), hn]; omega⟩), (show (j) < j + 1 from by omega), Weak.of_eq (put_id' (put_id' (put_id' (mk_id' clc_word_1) clc_word_1) clc_word_1) clc_word_1)⟩
  · skip
    have h9r := h9
    try simp only [hce, l1, t0, t1, dflt, val_dig] at h9
    obtain rfl : k = 0 := by omega
    have ej : True := trivial
    have ek : True := trivial
    rw [List.drop_zero] at hn
    rw [← hn]
    refine wl_exit ?_
    refine then_e (then_e (blk_e (then_n (wl_seq (wl_reg (mv (asg ?_)))))))
    refine st_end nfc_word_0 ?_
    refine then_n (wl_ret ?_)
    exact ret1 rfl (by first | exact .pure rfl | exact .pure (limL_pure _) | exact .pure (magL_pure _) | exact .pure (ratE.pure _) | exact .pure (pure_lst u32E _ _) | exact .pure (pure_lst ratE _ _))
end Go.Proofs.Ythhdcfhaldcheaa
