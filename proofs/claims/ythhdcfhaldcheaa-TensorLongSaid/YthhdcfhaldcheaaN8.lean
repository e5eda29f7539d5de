/- Rational numbers: parts, short numbers, greatest common divisors. -/
import Derived.Test.YthhdcfhaldcheaaN7
set_option linter.unusedVariables false
set_option linter.unusedSimpArgs false
namespace Go.Proofs.Ythhdcfhaldcheaa
open Go.Lg
theorem nfc_NGcd_0 {p : Prop} (h : p := by (try simp only [e1, e2, e3, e4, p1, p2, p3, q1, q2, q3, l1, t0, t1, r1, r2, r3, r4, Nat.zero_add, Nat.reduceMul, Nat.reduceAdd, b1, b2, b3, b4, b5, b6, i1, i2, i3, i4, i5, i6, Nat.reduceBEq, dflt, val_dig]); exact rfl) : p := h
theorem clc_NGcd_1 {p : Prop} (h : p := by first | rfl | (simp only [e1, e2, e3, e4, p1, p2, p3, q1, q2, q3, l1, t0, t1, r1, r2, r3, r4, Nat.zero_add, Nat.reduceMul, Nat.reduceAdd, b1, b2, b3, b4, b5, b6, i1, i2, i3, i4, i5, i6, Nat.reduceBEq, dflt, val_dig]; done) | (simp only [e1, e2, e3, e4, p1, p2, p3, q1, q2, q3, l1, t0, t1, r1, r2, r3, r4, Nat.zero_add, Nat.reduceMul, Nat.reduceAdd, b1, b2, b3, b4, b5, b6, i1, i2, i3, i4, i5, i6, Nat.reduceBEq, dflt, val_dig]; rfl) | (simp only [e1, e2, e3, e4, p1, p2, p3, q1, q2, q3, l1, t0, t1, r1, r2, r3, r4, Nat.zero_add, Nat.reduceMul, Nat.reduceAdd, b1, b2, b3, b4, b5, b6, i1, i2, i3, i4, i5, i6, Nat.reduceBEq, dflt, val_dig]; congr 3 <;> omega) | (simp only [e1, e2, e3, e4, p1, p2, p3, q1, q2, q3, l1, t0, t1, r1, r2, r3, r4, Nat.zero_add, Nat.reduceMul, Nat.reduceAdd, b1, b2, b3, b4, b5, b6, i1, i2, i3, i4, i5, i6, Nat.reduceBEq, dflt, val_dig]; congr 2 <;> omega)) : p := h
namespace H_c_NGcd
theorem om {p : Prop} (h : p := by first | (simp only [e1, e2, e3, e4, p1, p2, p3, q1, q2, q3, l1, t0, t1, r1, r2, r3, r4, Nat.zero_add, Nat.reduceMul, Nat.reduceAdd, b1, b2, b3, b4, b5, b6, i1, i2, i3, i4, i5, i6, Nat.reduceBEq, dflt, val_dig]; omega) | omega) : p := h
end H_c_NGcd
open H_c_NGcd in
set_option maxHeartbeats 1000000 in
set_option maxRecDepth 100000 in
theorem c_NGcd (a b : List Nat) (ha : Lim a) (hb : Lim b) (hla : a.length ≤ 1099511627776) (hlb : b.length ≤ 1099511627776) : CallP Try.prog 97 [limL a, limL b] (magL (Nat.gcd (val a) (val b))) := by
  have hla2 := c_trimC a ha hla
  have hlb2 := c_trimC b hb hlb
  refine callP_of fol Try.func97 rfl (by decide +kernel) (by decide +kernel) (Nat.le_of_ble_eq_true rfl) tm0 ?_
  refine wl_seq (wl_reg (asg ?_))
  refine st_end nfc_NGcd_0 ?_
  refine then_n (wl_seq (wl_reg (mv ?_)))
  refine st_callP rfl (.cons im0 .nil) (c_trimD _ (by first | assumption | exact lim_dig _) (by first | omega | (simp; done) | (simp; omega))) ?_
  refine st_callP rfl (.cons im0 .nil) (c_Clone _ (by omega)) ?_
  refine mv ?_
  refine st_callP rfl (.cons im0 .nil) (c_trimD _ (by first | assumption | exact lim_dig _) (by first | omega | (simp; done) | (simp; omega))) ?_
  refine st_callP rfl (.cons im0 .nil) (c_Clone _ (by omega)) ?_
  refine asg (asg ?_)
  refine st_end nfc_NGcd_0 ?_
  refine then_n (wl_seq (wl_block ?_))
  refine wl_loop (α := Nat × Nat) (fun st L => (((St.mk L.slot (hp [])).put (some 5) (magL st.1)).put (some 6) (magL st.2))) (fun st => Nat.gcd st.1 st.2 = Nat.gcd (val a) (val b) ∧ (dig st.1).length ≤ 1099511627776 ∧ (dig st.2).length ≤ 1099511627776) (fun st => st.2) (val a, val b) (show Nat.gcd (val a) (val b) = Nat.gcd (val a) (val b) ∧ (dig (val a)).length ≤ 1099511627776 ∧ (dig (val b)).length ≤ 1099511627776 from ⟨rfl, hla2, hlb2⟩) ⟨_, Weak.of_eq (put_id' (put_id' (mk_id' clc_NGcd_1) clc_NGcd_1) clc_NGcd_1)⟩ ?_
  rintro ⟨x, y⟩ L1 hLC
  obtain ⟨hg, hx, hy⟩ : Nat.gcd x y = Nat.gcd (val a) (val b) ∧ (dig x).length ≤ 1099511627776 ∧ (dig y).length ≤ 1099511627776 := hLC
  show wpL _ _ _ (((St.mk L1.slot (hp [])).put (some 5) (magL x)).put (some 6) (magL y))
  refine wl_seq (wl_seq (wl_reg (mv ?_)))
  refine st_pure rfl ln32 ?_
  refine st_pure rfl (.bin rfl rfl rfl) ?_
  refine st_end nfc_NGcd_0 ?_
  refine then_n ?_
  refine wl_cond rfl (fun h23 => ?_) (fun h23 => ?_)
  · skip
    have h23r := h23
    try simp only [hce, l1, t0, t1, dflt, val_dig] at h23
    have hy0 : 0 < y := Nat.pos_of_ne_zero (fun h => by rw [h, dig_zero] at h23; simp at h23)
    refine wl_skip (then_n (wl_block (wl_seq (wl_reg (mv (mv ?_))))))
    refine st_callP rfl (.cons im0 (.cons im0 .nil)) (c_NDiv _ _ (lim_dig _) (lim_dig _) (by omega) (by omega) (by rw [val_dig]; exact hy0)) ?_
    refine mv ?_
    refine st_pure rfl (.extract rfl rfl nt0) ?_
    refine st_pure rfl (.extract rfl rfl nt0) ?_
    refine st_pure rfl (.extract rfl rfl nt0) ?_
    refine asg (asg (asg ?_))
    refine st_end nfc_NGcd_0 ?_
    refine then_n (wl_reg (mv (mv (asg (asg ?_)))))
    refine st_end nfc_NGcd_0 ?_
    refine blk_n (then_n ?_)
    exact ⟨(y, x % y), _, (show Nat.gcd (y) (x % y) = Nat.gcd (val a) (val b) ∧ (dig (y)).length ≤ 1099511627776 ∧ (dig (x % y)).length ≤ 1099511627776 from ⟨by rw [Nat.gcd_comm, ← Nat.gcd_rec, Nat.gcd_comm]; exact hg, hy, Nat.le_trans (len_dig_mono (Nat.le_of_lt (Nat.mod_lt x hy0))) hy⟩), (show (x % y) < y from Nat.mod_lt _ hy0), Weak.of_eq (put_id' (put_id' (mk_id' clc_NGcd_1) clc_NGcd_1) clc_NGcd_1)⟩
  · skip
    have h23r := h23
    try simp only [hce, l1, t0, t1, dflt, val_dig] at h23
    refine wl_exit ?_
    refine then_e (then_e (blk_e (then_n (wl_seq (wl_seq (wl_reg (mv ?_)))))))
    refine st_pure rfl ln32 ?_
    refine st_pure rfl (.bin rfl rfl rfl) ?_
    refine st_end nfc_NGcd_0 ?_
    refine then_n ?_
    refine wl_cond rfl (fun h35 => ?_) (fun h35 => ?_)
    · skip
      have h35r := h35
      try simp only [hce, l1, t0, t1, dflt, val_dig] at h35
      have hy0 : y = 0 := dig_eq_nil.1 (List.eq_nil_of_length_eq_zero (by omega))
      refine wl_seq (wl_reg (mv (asg ?_)))
      refine st_end nfc_NGcd_0 ?_
      refine then_n (wl_ret (then_r ?_))
      subst hy0
      rw [← hg, Nat.gcd_zero_right]
      exact ret1 rfl (by first | exact .pure rfl | exact .pure (limL_pure _) | exact .pure (magL_pure _) | exact .pure (ratE.pure _) | exact .pure (pure_lst u32E _ _) | exact .pure (pure_lst ratE _ _))
    · skip
      have h35r := h35
      try simp only [hce, l1, t0, t1, dflt, val_dig] at h35
      have hy0 : 0 < y := Nat.pos_of_ne_zero (fun h => by rw [h, dig_zero] at h35; simp at h35)
      refine wl_skip (then_n (wl_seq (wl_seq (wl_reg (mv ?_)))))
      refine st_pure rfl ln32 ?_
      refine st_pure rfl (.bin rfl rfl rfl) ?_
      refine st_end nfc_NGcd_0 ?_
      refine then_n ?_
      refine wl_cut (fun L => ∃ (x2 : Nat) (y2 : Nat) (L1 : St), (Nat.gcd x2 y2 = Nat.gcd (val a) (val b) ∧ (dig x2).length ≤ 2 ∧ (dig y2).length ≤ 2) ∧ L = (((St.mk L1.slot (hp [])).put (some 5) (magL x2)).put (some 6) (magL y2))) ?_ ?_
      · skip
        refine wl_cond rfl (fun h39 => ?_) (fun h39 => ?_)
        · skip
          have h39r := h39
          try simp only [hce, l1, t0, t1, dflt, val_dig] at h39
          refine wl_seq (wl_reg (mv (mv ?_)))
          refine st_callP rfl (.cons im0 (.cons im0 .nil)) (c_NDiv _ _ (lim_dig _) (lim_dig _) (by omega) (by omega) (by rw [val_dig]; exact hy0)) ?_
          refine mv ?_
          refine st_pure rfl (.extract rfl rfl nt0) ?_
          refine st_pure rfl (.extract rfl rfl nt0) ?_
          refine st_pure rfl (.extract rfl rfl nt0) ?_
          refine asg (asg (asg ?_))
          refine st_end nfc_NGcd_0 ?_
          refine then_n (wl_reg (mv (mv (asg (asg ?_)))))
          refine st_end nfc_NGcd_0 ?_
          refine then_n ?_
          exact ⟨y, x % y, _, ⟨by rw [Nat.gcd_comm, ← Nat.gcd_rec, Nat.gcd_comm]; exact hg, by omega, Nat.le_trans (len_dig_mono (Nat.le_of_lt (Nat.mod_lt x hy0))) (by omega)⟩, ((put_id' (put_id' (mk_id' clc_NGcd_1) clc_NGcd_1) clc_NGcd_1)).symm⟩
        · skip
          have h39r := h39
          try simp only [hce, l1, t0, t1, dflt, val_dig] at h39
          refine wl_skip (then_n ?_)
          exact ⟨x, y, _, ⟨hg, by omega, by omega⟩, ((put_id' (put_id' (mk_id' clc_NGcd_1) clc_NGcd_1) clc_NGcd_1)).symm⟩
      · skip
        rintro _ ⟨x2, y2, LC39, ⟨hg2, hx2, hy2⟩, rfl⟩
        refine then_n (wl_seq (wl_reg (mv ?_)))
        refine st_callP rfl (.cons im0 .nil) (c_word _ (lim_dig _) (by omega)) ?_
        refine mv ?_
        refine st_callP rfl (.cons im0 .nil) (c_word _ (lim_dig _) (by omega)) ?_
        refine asg (asg ?_)
        refine st_end nfc_NGcd_0 ?_
        refine then_n (wl_seq (wl_block ?_))
        refine wl_loop (α := Nat × Nat) (fun st L => (((St.mk L.slot (hp [])).put (some 13) (nU64 st.1)).put (some 14) (nU64 st.2))) (fun st => Nat.gcd st.1 st.2 = Nat.gcd (val a) (val b) ∧ st.1 < 18446744073709551616 ∧ st.2 < 18446744073709551616) (fun st => st.2) (x2, y2) (show Nat.gcd (x2) (y2) = Nat.gcd (val a) (val b) ∧ (x2) < 18446744073709551616 ∧ (y2) < 18446744073709551616 from ⟨hg2, dig_len_le2.1 hx2, dig_len_le2.1 hy2⟩) ⟨_, Weak.of_eq (put_id' (put_id' (mk_id' clc_NGcd_1) clc_NGcd_1) clc_NGcd_1)⟩ ?_
        rintro ⟨m, n⟩ L2 hLC
        obtain ⟨hg3, hm, hn⟩ : Nat.gcd m n = Nat.gcd (val a) (val b) ∧ m < 18446744073709551616 ∧ n < 18446744073709551616 := hLC
        show wpL _ _ _ (((St.mk L2.slot (hp [])).put (some 13) (nU64 m)).put (some 14) (nU64 n))
        refine wl_seq (wl_seq (wl_reg (mv ?_)))
        refine st_pure rfl (.bin rfl rfl rfl) ?_
        refine st_end nfc_NGcd_0 ?_
        refine then_n ?_
        refine wl_cond rfl (fun h54 => ?_) (fun h54 => ?_)
        · skip
          have h54r := h54
          try simp only [hce, l1, t0, t1, dflt, val_dig] at h54
          refine wl_skip (then_n (wl_block ?_))
          refine wl_regD 6 (by decide +kernel) ?_
          refine mv (mv (mv ?_))
          refine st_pure rfl (.bin rfl rfl (remU om)) ?_
          refine asg (asg ?_)
          refine st_end nfc_NGcd_0 ?_
          refine blk_n (then_n ?_)
          exact ⟨(n, m % n), _, (show Nat.gcd (n) (m % n) = Nat.gcd (val a) (val b) ∧ (n) < 18446744073709551616 ∧ (m % n) < 18446744073709551616 from ⟨by rw [Nat.gcd_comm, ← Nat.gcd_rec, Nat.gcd_comm]; exact hg3, hn, by have := Nat.mod_lt m (show n > 0 by omega); omega⟩), (show (m % n) < n from Nat.mod_lt _ (by omega)), Weak.of_eq (put_id' (put_id' (mk_id' clc_NGcd_1) clc_NGcd_1) clc_NGcd_1)⟩
        · skip
          have h54r := h54
          try simp only [hce, l1, t0, t1, dflt, val_dig] at h54
          obtain rfl : n = 0 := by omega
          refine wl_exit ?_
          refine then_e (then_e (blk_e (then_n (wl_seq (wl_reg (mv ?_))))))
          refine st_callP rfl (.cons im0 .nil) (c_NOf _ (by omega)) ?_
          refine asg ?_
          refine st_end nfc_NGcd_0 ?_
          refine then_n (wl_ret ?_)
          rw [← hg3, Nat.gcd_zero_right]
          exact ret1 rfl (by first | exact .pure rfl | exact .pure (limL_pure _) | exact .pure (magL_pure _) | exact .pure (ratE.pure _) | exact .pure (pure_lst u32E _ _) | exact .pure (pure_lst ratE _ _))
open H0 in
set_option maxHeartbeats 1000000 in
set_option maxRecDepth 100000 in
theorem c_one  : CallP Try.prog 101 [] (magL 1) := by
  refine callP_of fol Try.func101 rfl (by decide +kernel) (by decide +kernel) (Nat.le_of_ble_eq_true rfl) tm0 ?_
  refine wl_seq (wl_reg (asg ?_))
  refine st_end nf0 ?_
  refine then_n (wl_seq (wl_reg ?_))
  refine st_alloc rfl rfl (.lit1 u32E Try.underlying32 Z31 T31 rfl (by decide) (by decide)) ?_
  refine asg ?_
  refine st_end nf0 ?_
  refine then_n (wl_ret ?_)
  rw [show magL 1 = .list 1 ([1].map u32L) from rfl]
  exact ret1f [1] rfl rfl (imm_refm u32E rfl rfl rfl)
theorem nfc_den_0 {p : Prop} (h : p := by (try simp only [e1, e2, e3, e4, p1, p2, p3, q1, q2, q3, l1, t0, t1, r1, r2, r3, r4, Nat.zero_add, Nat.reduceMul, Nat.reduceAdd, b1, b2, b3, b4, b5, b6, i1, i2, i3, i4, i5, i6, Nat.reduceBEq, kills_map ratE, ratL_kill]); exact rfl) : p := h
namespace H_c_den
theorem om {p : Prop} (h : p := by first | (simp only [e1, e2, e3, e4, p1, p2, p3, q1, q2, q3, l1, t0, t1, r1, r2, r3, r4, Nat.zero_add, Nat.reduceMul, Nat.reduceAdd, b1, b2, b3, b4, b5, b6, i1, i2, i3, i4, i5, i6, Nat.reduceBEq, kills_map ratE, ratL_kill]; omega) | omega) : p := h
end H_c_den
open H_c_den in
set_option maxHeartbeats 1000000 in
set_option maxRecDepth 100000 in
theorem c_den (q : Rat) : CallP Try.prog 108 [ratL q] (magL q.den) := by
  refine callP_of fol Try.func108 rfl (by decide +kernel) (by decide +kernel) (Nat.le_of_ble_eq_true rfl) tm0 ?_
  refine wl_seq (wl_reg ?_)
  refine st_alloc rfl rfl (.boxE ratE rfl) ?_
  refine asg ?_
  refine st_end nfc_den_0 ?_
  refine then_n (wl_seq (wl_seq (wl_reg ?_)))
  refine st_pure rfl fa34 ?_
  refine st_pure rfl ld32 ?_
  refine st_pure rfl ln32 ?_
  refine st_pure rfl (.bin rfl rfl rfl) ?_
  refine st_end nfc_den_0 ?_
  refine then_n ?_
  refine wl_cond rfl (fun h6 => ?_) (fun h6 => ?_)
  · skip
    have h6r := h6
    try simp only [hce, l1, t0, t1, dflt, val_dig] at h6
    have hd1 := denN_zero (show (dig (denN q)).length = 0 by omega)
    refine wl_seq (wl_reg ?_)
    refine st_callP rfl .nil (c_one) ?_
    refine asg ?_
    refine st_end nfc_den_0 ?_
    refine then_n (wl_ret (then_r ?_))
    rw [hd1]
    exact ret1 rfl (by first | exact .pure rfl | exact .pure (limL_pure _) | exact .pure (magL_pure _) | exact .pure (ratE.pure _) | exact .pure (pure_lst u32E _ _) | exact .pure (pure_lst ratE _ _))
  · skip
    have h6r := h6
    try simp only [hce, l1, t0, t1, dflt, val_dig] at h6
    have hd1 := denN_pos (q := q) (by omega)
    refine wl_skip (then_n (wl_seq (wl_reg ?_)))
    refine st_pure rfl fa34 ?_
    refine st_pure rfl ld32 ?_
    refine asg ?_
    refine st_end nfc_den_0 ?_
    refine then_n (wl_ret ?_)
    rw [← hd1]
    exact ret1 rfl (by first | exact .pure rfl | exact .pure (limL_pure _) | exact .pure (magL_pure _) | exact .pure (ratE.pure _) | exact .pure (pure_lst u32E _ _) | exact .pure (pure_lst ratE _ _))
theorem nfc_Rword_0 {p : Prop} (h : p := by (try simp only [e1, e2, e3, e4, p1, p2, p3, q1, q2, q3, l1, t0, t1, r1, r2, r3, r4, Nat.zero_add, Nat.reduceMul, Nat.reduceAdd, b1, b2, b3, b4, b5, b6, i1, i2, i3, i4, i5, i6, Nat.reduceBEq, dflt, ej]); exact rfl) : p := h
theorem clc_Rword_1 {p : Prop} (h : p := by first | rfl | (simp only [e1, e2, e3, e4, p1, p2, p3, q1, q2, q3, l1, t0, t1, r1, r2, r3, r4, Nat.zero_add, Nat.reduceMul, Nat.reduceAdd, b1, b2, b3, b4, b5, b6, i1, i2, i3, i4, i5, i6, Nat.reduceBEq, dflt, ej]; done) | (simp only [e1, e2, e3, e4, p1, p2, p3, q1, q2, q3, l1, t0, t1, r1, r2, r3, r4, Nat.zero_add, Nat.reduceMul, Nat.reduceAdd, b1, b2, b3, b4, b5, b6, i1, i2, i3, i4, i5, i6, Nat.reduceBEq, dflt, ej]; rfl) | (simp only [e1, e2, e3, e4, p1, p2, p3, q1, q2, q3, l1, t0, t1, r1, r2, r3, r4, Nat.zero_add, Nat.reduceMul, Nat.reduceAdd, b1, b2, b3, b4, b5, b6, i1, i2, i3, i4, i5, i6, Nat.reduceBEq, dflt, ej]; congr 3 <;> omega) | (simp only [e1, e2, e3, e4, p1, p2, p3, q1, q2, q3, l1, t0, t1, r1, r2, r3, r4, Nat.zero_add, Nat.reduceMul, Nat.reduceAdd, b1, b2, b3, b4, b5, b6, i1, i2, i3, i4, i5, i6, Nat.reduceBEq, dflt, ej]; congr 2 <;> omega)) : p := h
namespace H_c_Rword
theorem om {p : Prop} (h : p := by first | (simp only [e1, e2, e3, e4, p1, p2, p3, q1, q2, q3, l1, t0, t1, r1, r2, r3, r4, Nat.zero_add, Nat.reduceMul, Nat.reduceAdd, b1, b2, b3, b4, b5, b6, i1, i2, i3, i4, i5, i6, Nat.reduceBEq, dflt, ej]; omega) | omega) : p := h
end H_c_Rword
open H_c_Rword in
set_option maxHeartbeats 1000000 in
set_option maxRecDepth 100000 in
theorem c_Rword (a : List Nat) (h : Lim a) (hl : a.length ≤ 2) : CallP Try.prog 129 [limL a] (nU64 (val a)) := by
  unfold limL
  refine callP_of fol Try.func129 rfl (by decide +kernel) (by decide +kernel) (Nat.le_of_ble_eq_true rfl) tm0 ?_
  have ej : True := trivial
  refine wl_seq (wl_reg (asg ?_))
  refine st_end nfc_Rword_0 ?_
  refine then_n (wl_seq (wl_reg (asg ?_)))
  refine st_end nfc_Rword_0 ?_
  refine then_n (wl_seq (wl_seq (wl_reg (mv ?_))))
  refine st_pure rfl ln32 ?_
  refine st_pure rfl (.bin rfl rfl (sub64 om om)) ?_
  refine asg ?_
  refine st_end nfc_Rword_0 ?_
  refine then_n (wl_block ?_)
  refine wl_loop (α := Nat × Nat) (fun st L => ((((St.mk L.slot (hp [])).put (some 0) (.list 1 (a.map u32L))).put (some 3) (nU64 st.2)).put (some 4) (iL ((st.1 : Int) - 1)))) (fun st => st.1 ≤ a.length ∧ st.2 = val (a.drop st.1)) (fun st => st.1) (a.length, 0) (show (a.length) ≤ a.length ∧ (0) = val (a.drop (a.length)) from ⟨Nat.le_refl _, by simp [val]⟩) ⟨_, Weak.of_eq (put_id' (put_id' (put_id' (mk_id' clc_Rword_1) clc_Rword_1) clc_Rword_1) clc_Rword_1)⟩ ?_
  rintro ⟨k, n⟩ L1 hLC
  obtain ⟨hk, hn⟩ : k ≤ a.length ∧ n = val (a.drop k) := hLC
  show wpL _ _ _ ((((St.mk L1.slot (hp [])).put (some 0) (.list 1 (a.map u32L))).put (some 3) (nU64 n)).put (some 4) (iL ((k : Int) - 1)))
  refine wl_seq (wl_seq (wl_reg (mv ?_)))
  refine st_pure rfl (.bin rfl rfl rfl) ?_
  refine st_end nfc_Rword_0 ?_
  refine then_n ?_
  refine wl_cond rfl (fun h9 => ?_) (fun h9 => ?_)
  · skip
    have h9r := h9
    try simp only [hce, l1, t0, t1, dflt, val_dig] at h9
    obtain ⟨j, rfl⟩ : ∃ j, k = j + 1 := ⟨k - 1, by omega⟩
    have ej : (((j + 1 : Nat) : Int) - 1).toNat = j := by omega
    have ek : (((j + 1 : Nat) : Int) - 1) = j := by omega
    have hj := getD_lim h j
    have hnB := val_drop_lt h (k := j + 1) (j := 1) (by omega)
    rw [← hn] at hnB
    refine wl_skip (then_n (wl_seq (wl_block (wl_reg (mv ?_)))))
    refine st_pure rfl (.sh rfl rfl (shl32 om)) ?_
    refine mv (mv ?_)
    refine st_pure rfl ix32 ?_
    refine st_pure rfl ld31 ?_
    refine st_pure rfl (.cv64 Try.underlying31 Try.underlying116 rfl om) ?_
    refine st_pure rfl (.bin rfl rfl (orU om om)) ?_
    refine asg ?_
    refine st_end nfc_Rword_0 ?_
    refine blk_n (then_n (wl_reg (mv ?_)))
    refine st_pure rfl (.bin rfl rfl (sub64 om om)) ?_
    refine asg ?_
    refine st_end nfc_Rword_0 ?_
    refine then_n ?_
    exact ⟨(j, n * 4294967296 + a.getD j 0), _, (show (j) ≤ a.length ∧ (n * 4294967296 + a.getD j 0) = val (a.drop (j)) from ⟨by omega, by rw [val_drop (by omega), hn]; omega⟩), (show (j) < j + 1 from by omega), Weak.of_eq (put_id' (put_id' (put_id' (mk_id' clc_Rword_1) clc_Rword_1) clc_Rword_1) clc_Rword_1)⟩
  · skip
    have h9r := h9
    try simp only [hce, l1, t0, t1, dflt, val_dig] at h9
    obtain rfl : k = 0 := by omega
    rw [List.drop_zero] at hn
    refine wl_exit ?_
    refine then_e (then_e (blk_e (then_n (wl_seq (wl_reg (mv (asg ?_)))))))
    refine st_end nfc_Rword_0 ?_
    refine then_n (wl_ret ?_)
    rw [← hn]
    exact ret1 rfl (by first | exact .pure rfl | exact .pure (limL_pure _) | exact .pure (magL_pure _) | exact .pure (ratE.pure _) | exact .pure (pure_lst u32E _ _) | exact .pure (pure_lst ratE _ _))
open H0 in
set_option maxHeartbeats 1000000 in
set_option maxRecDepth 100000 in
theorem c_divisor (a b : Nat) (ha : a < 18446744073709551616) (hb : b < 18446744073709551616) : CallP Try.prog 134 [nU64 a, nU64 b] (nU64 (Nat.gcd a b)) := by
  refine callP_of fol Try.func134 rfl (by decide +kernel) (by decide +kernel) (Nat.le_of_ble_eq_true rfl) tm0 ?_
  refine wl_seq (wl_reg (asg ?_))
  refine st_end nf0 ?_
  refine then_n (wl_seq (wl_block ?_))
  refine wl_loop (α := Nat × Nat) (fun st L => (((St.mk L.slot (hp [])).put (some 0) (nU64 st.1)).put (some 1) (nU64 st.2))) (fun st => Nat.gcd st.1 st.2 = Nat.gcd a b ∧ st.1 < 18446744073709551616 ∧ st.2 < 18446744073709551616) (fun st => st.2) (a, b) (show Nat.gcd (a) (b) = Nat.gcd a b ∧ (a) < 18446744073709551616 ∧ (b) < 18446744073709551616 from ⟨rfl, ha, hb⟩) ⟨_, Weak.of_eq (put_id' (put_id' (mk_id' cl0) cl0) cl0)⟩ ?_
  rintro ⟨m, n⟩ L1 hLC
  obtain ⟨hg3, hm, hn⟩ : Nat.gcd m n = Nat.gcd a b ∧ m < 18446744073709551616 ∧ n < 18446744073709551616 := hLC
  show wpL _ _ _ (((St.mk L1.slot (hp [])).put (some 0) (nU64 m)).put (some 1) (nU64 n))
  refine wl_seq (wl_seq (wl_reg (mv ?_)))
  refine st_pure rfl (.bin rfl rfl rfl) ?_
  refine st_end nf0 ?_
  refine then_n ?_
  refine wl_cond rfl (fun h6 => ?_) (fun h6 => ?_)
  · skip
    have h6r := h6
    try simp only [hce, l1, t0, t1, dflt, val_dig] at h6
    refine wl_skip (then_n (wl_block ?_))
    refine wl_regD 6 (by decide +kernel) ?_
    refine mv (mv (mv ?_))
    refine st_pure rfl (.bin rfl rfl (remU om)) ?_
    refine asg (asg ?_)
    refine st_end nf0 ?_
    refine blk_n (then_n ?_)
    exact ⟨(n, m % n), _, (show Nat.gcd (n) (m % n) = Nat.gcd a b ∧ (n) < 18446744073709551616 ∧ (m % n) < 18446744073709551616 from ⟨by rw [Nat.gcd_comm, ← Nat.gcd_rec, Nat.gcd_comm]; exact hg3, hn, by have := Nat.mod_lt m (show n > 0 by omega); omega⟩), (show (m % n) < n from Nat.mod_lt _ (by omega)), Weak.of_eq (put_id' (put_id' (mk_id' cl0) cl0) cl0)⟩
  · skip
    have h6r := h6
    try simp only [hce, l1, t0, t1, dflt, val_dig] at h6
    obtain rfl : n = 0 := by omega
    refine wl_exit ?_
    refine then_e (then_e (blk_e (then_n (wl_seq (wl_reg (mv (asg ?_)))))))
    refine st_end nf0 ?_
    refine then_n (wl_ret ?_)
    rw [← hg3, Nat.gcd_zero_right]
    exact ret1 rfl (by first | exact .pure rfl | exact .pure (limL_pure _) | exact .pure (magL_pure _) | exact .pure (ratE.pure _) | exact .pure (pure_lst u32E _ _) | exact .pure (pure_lst ratE _ _))
theorem nfc_limbs_0 {p : Prop} (h : p := by (try simp only [e1, e2, e3, e4, p1, p2, p3, q1, q2, q3, l1, t0, t1, r1, r2, r3, r4, Nat.zero_add, Nat.reduceMul, Nat.reduceAdd, b1, b2, b3, b4, b5, b6, i1, i2, i3, i4, i5, i6, Nat.reduceBEq, dflt, List.length_set, Nat.add_zero, eqm, eqz]); exact rfl) : p := h
namespace H_c_limbs
theorem om {p : Prop} (h : p := by first | (simp only [e1, e2, e3, e4, p1, p2, p3, q1, q2, q3, l1, t0, t1, r1, r2, r3, r4, Nat.zero_add, Nat.reduceMul, Nat.reduceAdd, b1, b2, b3, b4, b5, b6, i1, i2, i3, i4, i5, i6, Nat.reduceBEq, dflt, List.length_set, Nat.add_zero, eqm, eqz]; omega) | omega) : p := h
end H_c_limbs
open H_c_limbs in
set_option maxHeartbeats 1000000 in
set_option maxRecDepth 100000 in
theorem c_limbs (l : List Nat) (off len n : Nat) (hn : n < 18446744073709551616) (h1 : 1 ≤ len) (h2 : 4294967296 ≤ n → 2 ≤ len) (hl : off + len ≤ l.length) : CallOKM Try.prog 135 ⟨1, l.map u32L, true⟩ [.ref 0 1 off len, nU64 n] (nI64 (dlen n)) ⟨1, (putd l off n).map u32L, true⟩ := by
  refine callM_of fol Try.func135 rfl (by decide +kernel) (by decide +kernel) (Nat.le_of_ble_eq_true rfl) rfl ?_
  have eqm : True := trivial
  have eqz : True := trivial
  refine wl_seq (wl_reg (asg ?_))
  refine st_end nfc_limbs_0 ?_
  refine then_n (wl_seq (wl_reg (mv (mv ?_))))
  refine st_pure rfl (.cv32 Try.underlying116 Try.underlying31 rfl) ?_
  refine st_pure rfl ix32 ?_
  refine st_store rfl (by exact .storeM u32E rfl rfl rfl T31 om) ?_
  refine st_end nfc_limbs_0 ?_
  refine then_n (wl_seq (wl_seq (wl_reg (mv ?_))))
  refine st_pure rfl (.sh rfl rfl shr32) ?_
  refine st_pure rfl (.bin rfl rfl rfl) ?_
  refine st_end nfc_limbs_0 ?_
  refine then_n ?_
  refine wl_cond rfl (fun h11 => ?_) (fun h11 => ?_)
  · skip
    have h11r := h11
    try simp only [hce, l1, t0, t1, dflt, val_dig] at h11
    have hn1 : n < 4294967296 := by omega
    have eqz : n % 4294967296 = n := Nat.mod_eq_of_lt hn1
    refine wl_seq (wl_reg (asg ?_))
    refine st_end nfc_limbs_0 ?_
    refine then_n (wl_ret (then_r ?_))
    simp only [putd, dlen, if_pos hn1, eqz]
    exact retM1 rfl (.imm (.pure rfl)) rfl rfl (pures_map u32E _)
  · skip
    have h11r := h11
    try simp only [hce, l1, t0, t1, dflt, val_dig] at h11
    have hn1 : ¬ n < 4294967296 := by omega
    have eqm : n / 4294967296 % 4294967296 = n / 4294967296 := Nat.mod_eq_of_lt (by omega)
    refine wl_skip (then_n (wl_seq (wl_reg (mv (mv ?_)))))
    refine st_pure rfl (.sh rfl rfl shr32) ?_
    refine st_pure rfl (.cv32 Try.underlying116 Try.underlying31 rfl) ?_
    refine st_pure rfl ix32 ?_
    refine st_store rfl (by exact .storeM u32E rfl rfl rfl T31 om) ?_
    refine st_end nfc_limbs_0 ?_
    refine then_n (wl_seq (wl_reg (asg ?_)))
    refine st_end nfc_limbs_0 ?_
    refine then_n (wl_ret ?_)
    simp only [putd, dlen, if_neg hn1]
    exact retM1 rfl (.imm (.pure rfl)) rfl rfl (pures_map u32E _)
end Go.Proofs.Ythhdcfhaldcheaa
