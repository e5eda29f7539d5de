/- Products of nets. -/
import Derived.Test.YthhdcfhaldcheaaT1
set_option linter.unusedVariables false
set_option linter.unusedSimpArgs false
namespace Go.Proofs.Ythhdcfhaldcheaa
open Go.Lg
theorem gL_zero (W : Nat → Rat) : gL 0 W = [] := rfl
theorem nfc_TMul_0 {p : Prop} (h : p := by (try simp only [e1, e2, e3, e4, p1, p2, p3, q1, q2, q3, l1, t0, t1, r1, r2, r3, r4, Nat.zero_add, Nat.reduceMul, Nat.reduceAdd, b1, b2, b3, b4, b5, b6, i1, i2, i3, i4, i5, i6, Nat.reduceBEq, frz_nil, dfq, dfi, rowI_len, egu, egv, Nat.add_zero, egd, esd, List.length_set, kills_map i64E, kills_map ratE, ratL_kill, spL_kill, LV.kill, kills]); exact rfl) : p := h
theorem mlc_TMul_1 {p : Prop} (h : p := by first | rfl | (simp only [e1, e2, e3, e4, p1, p2, p3, q1, q2, q3, l1, t0, t1, r1, r2, r3, r4, Nat.zero_add, Nat.reduceMul, Nat.reduceAdd, b1, b2, b3, b4, b5, b6, i1, i2, i3, i4, i5, i6, Nat.reduceBEq, frz_nil, dfq, dfi, rowI_len, egu, egv, Nat.add_zero, egd, esd, List.length_set, kills_map i64E, kills_map ratE, ratL_kill, spL_kill, LV.kill, kills]; done) | (simp only [e1, e2, e3, e4, p1, p2, p3, q1, q2, q3, l1, t0, t1, r1, r2, r3, r4, Nat.zero_add, Nat.reduceMul, Nat.reduceAdd, b1, b2, b3, b4, b5, b6, i1, i2, i3, i4, i5, i6, Nat.reduceBEq, frz_nil, dfq, dfi, rowI_len, egu, egv, Nat.add_zero, egd, esd, List.length_set, kills_map i64E, kills_map ratE, ratL_kill, spL_kill, LV.kill, kills]; rfl) | (simp only [e1, e2, e3, e4, p1, p2, p3, q1, q2, q3, l1, t0, t1, r1, r2, r3, r4, Nat.zero_add, Nat.reduceMul, Nat.reduceAdd, b1, b2, b3, b4, b5, b6, i1, i2, i3, i4, i5, i6, Nat.reduceBEq, frz_nil, dfq, dfi, rowI_len, egu, egv, Nat.add_zero, egd, esd, List.length_set, kills_map i64E, kills_map ratE, ratL_kill, spL_kill, LV.kill, kills]; congr 2 <;> omega)) : p := h
theorem clc_TMul_2 {p : Prop} (h : p := by first | rfl | (simp only [e1, e2, e3, e4, p1, p2, p3, q1, q2, q3, l1, t0, t1, r1, r2, r3, r4, Nat.zero_add, Nat.reduceMul, Nat.reduceAdd, b1, b2, b3, b4, b5, b6, i1, i2, i3, i4, i5, i6, Nat.reduceBEq, frz_nil, dfq, dfi, rowI_len, egu, egv, Nat.add_zero, egd, esd, List.length_set, kills_map i64E, kills_map ratE, ratL_kill, spL_kill, LV.kill, kills]; done) | (simp only [e1, e2, e3, e4, p1, p2, p3, q1, q2, q3, l1, t0, t1, r1, r2, r3, r4, Nat.zero_add, Nat.reduceMul, Nat.reduceAdd, b1, b2, b3, b4, b5, b6, i1, i2, i3, i4, i5, i6, Nat.reduceBEq, frz_nil, dfq, dfi, rowI_len, egu, egv, Nat.add_zero, egd, esd, List.length_set, kills_map i64E, kills_map ratE, ratL_kill, spL_kill, LV.kill, kills]; rfl) | (simp only [e1, e2, e3, e4, p1, p2, p3, q1, q2, q3, l1, t0, t1, r1, r2, r3, r4, Nat.zero_add, Nat.reduceMul, Nat.reduceAdd, b1, b2, b3, b4, b5, b6, i1, i2, i3, i4, i5, i6, Nat.reduceBEq, frz_nil, dfq, dfi, rowI_len, egu, egv, Nat.add_zero, egd, esd, List.length_set, kills_map i64E, kills_map ratE, ratL_kill, spL_kill, LV.kill, kills]; congr 3 <;> omega) | (simp only [e1, e2, e3, e4, p1, p2, p3, q1, q2, q3, l1, t0, t1, r1, r2, r3, r4, Nat.zero_add, Nat.reduceMul, Nat.reduceAdd, b1, b2, b3, b4, b5, b6, i1, i2, i3, i4, i5, i6, Nat.reduceBEq, frz_nil, dfq, dfi, rowI_len, egu, egv, Nat.add_zero, egd, esd, List.length_set, kills_map i64E, kills_map ratE, ratL_kill, spL_kill, LV.kill, kills]; congr 2 <;> omega)) : p := h
theorem clc_TMul_3 {p : Prop} (h : p := by first | rfl | (simp only [e1, e2, e3, e4, p1, p2, p3, q1, q2, q3, l1, t0, t1, r1, r2, r3, r4, Nat.zero_add, Nat.reduceMul, Nat.reduceAdd, b1, b2, b3, b4, b5, b6, i1, i2, i3, i4, i5, i6, Nat.reduceBEq, frz_nil, dfq, dfi, rowI_len, egu, egv, Nat.add_zero, egd, esd, List.length_set, kills_map i64E, kills_map ratE, ratL_kill, spL_kill, LV.kill, kills, gL_zero, List.nil_append, List.drop_zero]; done) | (simp only [e1, e2, e3, e4, p1, p2, p3, q1, q2, q3, l1, t0, t1, r1, r2, r3, r4, Nat.zero_add, Nat.reduceMul, Nat.reduceAdd, b1, b2, b3, b4, b5, b6, i1, i2, i3, i4, i5, i6, Nat.reduceBEq, frz_nil, dfq, dfi, rowI_len, egu, egv, Nat.add_zero, egd, esd, List.length_set, kills_map i64E, kills_map ratE, ratL_kill, spL_kill, LV.kill, kills, gL_zero, List.nil_append, List.drop_zero]; rfl) | (simp only [e1, e2, e3, e4, p1, p2, p3, q1, q2, q3, l1, t0, t1, r1, r2, r3, r4, Nat.zero_add, Nat.reduceMul, Nat.reduceAdd, b1, b2, b3, b4, b5, b6, i1, i2, i3, i4, i5, i6, Nat.reduceBEq, frz_nil, dfq, dfi, rowI_len, egu, egv, Nat.add_zero, egd, esd, List.length_set, kills_map i64E, kills_map ratE, ratL_kill, spL_kill, LV.kill, kills, gL_zero, List.nil_append, List.drop_zero]; congr 3 <;> omega) | (simp only [e1, e2, e3, e4, p1, p2, p3, q1, q2, q3, l1, t0, t1, r1, r2, r3, r4, Nat.zero_add, Nat.reduceMul, Nat.reduceAdd, b1, b2, b3, b4, b5, b6, i1, i2, i3, i4, i5, i6, Nat.reduceBEq, frz_nil, dfq, dfi, rowI_len, egu, egv, Nat.add_zero, egd, esd, List.length_set, kills_map i64E, kills_map ratE, ratL_kill, spL_kill, LV.kill, kills, gL_zero, List.nil_append, List.drop_zero]; congr 2 <;> omega)) : p := h
namespace H_c_TMul
theorem om {p : Prop} (h : p := by first | (simp only [e1, e2, e3, e4, p1, p2, p3, q1, q2, q3, l1, t0, t1, r1, r2, r3, r4, Nat.zero_add, Nat.reduceMul, Nat.reduceAdd, b1, b2, b3, b4, b5, b6, i1, i2, i3, i4, i5, i6, Nat.reduceBEq, frz_nil, dfq, dfi, rowI_len, egu, egv, Nat.add_zero, egd, esd, List.length_set, kills_map i64E, kills_map ratE, ratL_kill, spL_kill, LV.kill, kills]; omega) | omega) : p := h
end H_c_TMul
open H_c_TMul in
set_option maxHeartbeats 8000000 in
set_option maxRecDepth 100000 in
theorem c_TMul (U1 V1 U2 V2 : Nat) (a b : List Rat) (ha : a.length = (U1 + 1) * (V1 + 1)) (hb : b.length = (U2 + 1) * (V2 + 1)) (hal : a.length ≤ 1048576) (hbl : b.length ≤ 1048576) (hu : U1 + U2 ≤ 40) (hv : V1 + V2 ≤ 40) (R : Nat) (hR1 : 1 ≤ R) (hR : R ≤ 1000) (haR : ∀ x ∈ a, rl x ≤ R) (hbR : ∀ x ∈ b, rl x ≤ R) : CallP Try.prog 37 [.agg [nI64 U1, nI64 V1, .list 3 (a.map ratL)], .agg [nI64 U2, nI64 V2, .list 3 (b.map ratL)]] (.tup [.agg [nI64 (U1 + U2), nI64 (V1 + V2), .list 3 ((tmL U1 V1 U2 V2 a b).map ratL)], iL 0]) := by
  have hA1 : U1 + 1 ≤ a.length := by rw [ha]; exact Nat.le_mul_of_pos_right _ (Nat.succ_pos V1)
  have hA2 : V1 + 1 ≤ a.length := by rw [ha]; exact Nat.le_mul_of_pos_left _ (Nat.succ_pos U1)
  have hB1 : U2 + 1 ≤ b.length := by rw [hb]; exact Nat.le_mul_of_pos_right _ (Nat.succ_pos V2)
  have hB2 : V2 + 1 ≤ b.length := by rw [hb]; exact Nat.le_mul_of_pos_left _ (Nat.succ_pos U2)
  have hnp1 := net_pureN U1 V1 a
  have hnp2 := net_pureN U2 V2 b
  have hT : ((U1 + U2 + 1) * (V1 + V2 + 1)) ≤ 1681 := Nat.le_trans (Nat.mul_le_mul (show U1 + U2 + 1 ≤ 41 by omega) (show V1 + V2 + 1 ≤ 41 by omega)) (by decide)
  have hwa := wt_rl (U := U1) (V := V1) (c := a) (by omega) (by omega) hR1 haR
  have hwb := wt_rl (U := U2) (V := V2) (c := b) (by omega) (by omega) hR1 hbR
  have hwal : (wtL U1 V1 a).length = a.length := by rw [wtL, gL_len, ha]
  have hwbl : (wtL U2 V2 b).length = b.length := by rw [wtL, gL_len, hb]
  obtain ⟨z1, hz1⟩ : ∃ z1, (V2 + 1) * (2 * R + 14) = z1 := ⟨_, rfl⟩
  obtain ⟨z2, hz2⟩ : ∃ z2, (U2 + 1) * z1 = z2 := ⟨_, rfl⟩
  obtain ⟨z3, hz3⟩ : ∃ z3, (V1 + 1) * z2 = z3 := ⟨_, rfl⟩
  have hq1 : z1 ≤ 41 * (2 * R + 14) := by rw [← hz1]; exact Nat.mul_le_mul_right _ (by omega)
  have hq2 : z2 ≤ 41 * z1 := by rw [← hz2]; exact Nat.mul_le_mul_right _ (by omega)
  have hq3 : z3 ≤ 41 * z2 := by rw [← hz3]; exact Nat.mul_le_mul_right _ (by omega)
  have hq4 : (U1 + 1) * z3 ≤ 41 * z3 := Nat.mul_le_mul_right _ (by omega)
  have hq5 : (U1 + 1) * z3 ≤ 2825761 * (2 * R + 14) := by omega
  refine callP_of fol Try.func37 rfl (by decide +kernel) (by decide +kernel) (Nat.le_of_ble_eq_true rfl) (tame2 (net_pureN _ _ _) rfl) ?_
  have egu : True := trivial
  have egv : True := trivial
  have egd : True := trivial
  have esd : True := trivial
  refine wl_seq (wl_reg ?_)
  refine st_alloc rfl rfl (.box ne0) ?_
  refine st_alloc rfl rfl (.box ne0) ?_
  refine st_alloc rfl rfl (.alloc Z27) ?_
  refine asg ?_
  refine st_end nfc_TMul_0 ?_
  refine then_n (wl_seq (wl_reg ?_))
  refine st_pure rfl fa27 ?_
  refine st_pure rfl ld3 ?_
  refine st_pure rfl fa27 ?_
  refine st_pure rfl ld3 ?_
  refine st_pure rfl (.bin rfl rfl (add64N (by omega))) ?_
  refine st_pure rfl fa27 ?_
  refine st_pure rfl ld3 ?_
  refine st_pure rfl fa27 ?_
  refine st_pure rfl ld3 ?_
  refine st_pure rfl (.bin rfl rfl (add64N (by omega))) ?_
  refine st_pure rfl (.build (zs := [.v (.int .i64 0), .v (.int .i64 0), .v (.slice none 0 0)]) SL27 Z27 (by simp only [List.forall_mem_cons]; exact ⟨⟨_, rfl, rfl, ne0⟩, ⟨_, rfl, rfl, ne0⟩, fun _ h => by cases h⟩)) ?_
  refine st_alloc rfl rfl (.alloc Z27) ?_
  refine st_store rfl (.store rfl rfl rfl rfl rfl rfl rfl T27 ne0) ?_
  refine st_end nfc_TMul_0 ?_
  refine then_n (wl_seq (wl_seq (wl_reg ?_)))
  refine st_pure rfl fa27 ?_
  refine st_pure rfl ld3 ?_
  refine st_pure rfl (.bin rfl rfl rfl) ?_
  refine mv ?_
  refine st_pure (guardX (v := false) rfl rfl ((decide_eq_false (by omega))) rfl) fa27 ?_
  refine st_pure (guardX (v := false) rfl rfl ((decide_eq_false (by omega))) rfl) ld3 ?_
  refine st_pure (guardX (v := false) rfl rfl ((decide_eq_false (by omega))) rfl) (.bin rfl rfl rfl) ?_
  refine st_pure rfl (.pickF rfl ((decide_eq_false (by omega)))) ?_
  refine st_end nfc_TMul_0 ?_
  refine then_n ?_
  refine wl_condY (b := _) rfl (decide_eq_false (by omega)) ?_
  refine wl_skip (then_n (wl_seq (wl_seq (wl_reg ?_))))
  refine st_pure rfl ld27 ?_
  refine st_callP rfl (.cons im0 .nil) (c_shaped U1 V1 a ha hal) ?_
  refine st_pure rfl (.not rfl) ?_
  refine mv ?_
  refine st_pure (guardX (v := false) rfl rfl (rfl) rfl) ld27 ?_
  refine st_callP (guardX (v := false) rfl rfl (rfl) rfl) (.cons im0 .nil) (c_shaped U2 V2 b hb hbl) ?_
  refine st_pure (guardX (v := false) rfl rfl (rfl) rfl) (.not rfl) ?_
  refine st_pure rfl (.pickF rfl (rfl)) ?_
  refine st_end nfc_TMul_0 ?_
  refine then_n ?_
  refine wl_condY (b := _) rfl rfl ?_
  refine wl_skip (then_n (wl_seq (wl_reg ?_)))
  refine st_pure rfl fa27 ?_
  refine st_pure rfl ld3 ?_
  refine st_pure rfl (.bin rfl rfl (add1N (by omega))) ?_
  refine st_pure rfl fa27 ?_
  refine st_pure rfl ld3 ?_
  refine st_pure rfl (.bin rfl rfl (add1N (by omega))) ?_
  refine st_pure rfl (.bin rfl rfl (mulE rfl (by omega))) ?_
  refine st_alloc rfl rfl (.makeM (n := ((U1 + U2 + 1) * (V1 + V2 + 1))) (m := ((U1 + U2 + 1) * (V1 + V2 + 1))) ratE Try.underlying25 Z34 T34 B34 mlc_TMul_1 mlc_TMul_1 om om om) ?_
  refine st_pure rfl fa27 ?_
  refine st_store rfl (.store rfl rfl rfl rfl rfl rfl rfl T25 ne0) ?_
  refine st_end nfc_TMul_0 ?_
  refine then_n (wl_seq ?_)
  refine wl_regD 6 (by decide +kernel) ?_
  refine st_pure rfl ld27 ?_
  refine st_callP rfl (.cons im0 .nil) (c_weighted U1 V1 a ha hal (by omega) (by omega) R hR1 (by omega) haR) ?_
  refine st_pure rfl ld27 ?_
  refine st_callP rfl (.cons im0 .nil) (c_weighted U2 V2 b hb hbl (by omega) (by omega) R hR1 (by omega) hbR) ?_
  refine asg (asg ?_)
  refine st_end nfc_TMul_0 ?_
  refine then_n (wl_seq (wl_seq (wl_reg ?_)))
  refine st_pure rfl fa27 ?_
  refine st_pure rfl ld3 ?_
  refine st_pure rfl (.bin rfl rfl (add1N (by omega))) ?_
  refine mv ?_
  refine st_end nfc_TMul_0 ?_
  refine then_n (wl_block ?_)
  refine wl_loop (α := Nat × List Rat) (fun st L => (((((((((St.mk L.slot (hp [(2, ⟨3, [.agg [nI64 U1, nI64 V1, .list 3 (a.map ratL)]], true⟩), (3, ⟨3, [.agg [nI64 U2, nI64 V2, .list 3 (b.map ratL)]], true⟩), (4, ⟨3, [.agg [.v (.int .i64 0), .v (.int .i64 0), .v (.slice none 0 0)]], true⟩), (6, ⟨3, [.agg [nI64 (U1 + U2), nI64 (V1 + V2), .ref 55 3 0 ((U1 + U2 + 1) * (V1 + V2 + 1))]], true⟩), (55, ⟨3, st.2.map ratL, true⟩)])).put (some 2) (.eptr 2 3 0 0)).put (some 3) (.eptr 3 3 0 0)).put (some 4) (.eptr 4 3 0 0)).put (some 6) (.eptr 6 3 0 0)).put (some 7) (.list 3 ((wtL U1 V1 a).map ratL))).put (some 8) (.list 3 ((wtL U2 V2 b).map ratL))).put (some 63) (nI64 (U1 + 1))).put (some 64) (nI64 st.1))) (fun st => st.1 ≤ U1 + 1 ∧ st.2 = mI V1 V2 (V1 + V2) U2 (wtL U1 V1 a) (wtL U2 V2 b) st.1 (List.replicate ((U1 + U2 + 1) * (V1 + V2 + 1)) 0) ∧ st.2.length = ((U1 + U2 + 1) * (V1 + V2 + 1)) ∧ ∀ x ∈ st.2, rl x ≤ 1 + st.1 * z3) (fun st => U1 + 1 - st.1) (0, List.replicate ((U1 + U2 + 1) * (V1 + V2 + 1)) 0) (show (0) ≤ U1 + 1 ∧ (List.replicate ((U1 + U2 + 1) * (V1 + V2 + 1)) 0) = mI V1 V2 (V1 + V2) U2 (wtL U1 V1 a) (wtL U2 V2 b) (0) (List.replicate ((U1 + U2 + 1) * (V1 + V2 + 1)) 0) ∧ (List.replicate ((U1 + U2 + 1) * (V1 + V2 + 1)) 0).length = ((U1 + U2 + 1) * (V1 + V2 + 1)) ∧ ∀ x ∈ (List.replicate ((U1 + U2 + 1) * (V1 + V2 + 1)) 0), rl x ≤ 1 + (0) * z3 from ⟨Nat.zero_le _, rfl, by simp, fun x hx => by rw [(List.mem_replicate.1 hx).2]; exact Nat.le_add_right 1 _⟩) ⟨_, Weak.of_eq (put_id' (put_id' (put_id' (put_id' (put_id' (put_id' (put_id' (put_id' (mk_id' clc_TMul_2) clc_TMul_2) clc_TMul_2) clc_TMul_2) clc_TMul_2) clc_TMul_2) clc_TMul_2) clc_TMul_2) clc_TMul_2)⟩ ?_
  rintro ⟨i, oI⟩ L1 hLC
  obtain ⟨hi, hoI, hlI, hrI⟩ : i ≤ U1 + 1 ∧ oI = mI V1 V2 (V1 + V2) U2 (wtL U1 V1 a) (wtL U2 V2 b) i (List.replicate ((U1 + U2 + 1) * (V1 + V2 + 1)) 0) ∧ oI.length = ((U1 + U2 + 1) * (V1 + V2 + 1)) ∧ ∀ x ∈ oI, rl x ≤ 1 + i * z3 := hLC
  show wpL _ _ _ (((((((((St.mk L1.slot (hp [(2, ⟨3, [.agg [nI64 U1, nI64 V1, .list 3 (a.map ratL)]], true⟩), (3, ⟨3, [.agg [nI64 U2, nI64 V2, .list 3 (b.map ratL)]], true⟩), (4, ⟨3, [.agg [.v (.int .i64 0), .v (.int .i64 0), .v (.slice none 0 0)]], true⟩), (6, ⟨3, [.agg [nI64 (U1 + U2), nI64 (V1 + V2), .ref 55 3 0 ((U1 + U2 + 1) * (V1 + V2 + 1))]], true⟩), (55, ⟨3, oI.map ratL, true⟩)])).put (some 2) (.eptr 2 3 0 0)).put (some 3) (.eptr 3 3 0 0)).put (some 4) (.eptr 4 3 0 0)).put (some 6) (.eptr 6 3 0 0)).put (some 7) (.list 3 ((wtL U1 V1 a).map ratL))).put (some 8) (.list 3 ((wtL U2 V2 b).map ratL))).put (some 63) (nI64 (U1 + 1))).put (some 64) (nI64 i))
  refine wl_seq (wl_reg ?_)
  refine st_pure rfl (.bin rfl rfl rfl) ?_
  refine st_end nfc_TMul_0 ?_
  refine then_n (wl_seq ?_)
  refine wl_cond rfl (fun h65 => ?_) (fun h65 => ?_)
  · skip
    have h65r := h65
    try simp only [hce, l1, t0, t1, dflt, val_dig] at h65
    have hi2 : i ≤ U1 := by omega
    have hi3 : i * z3 + z3 ≤ (U1 + 1) * z3 := by rw [← Nat.succ_mul]; exact Nat.mul_le_mul_right _ (by omega)
    refine wl_skip (then_n (wl_seq (wl_block (wl_seq (wl_reg (mv (asg ?_)))))))
    refine st_end nfc_TMul_0 ?_
    refine then_n (wl_seq (wl_reg ?_))
    refine st_pure rfl fa27 ?_
    refine st_pure rfl ld3 ?_
    refine st_pure rfl (.bin rfl rfl (add1N (by omega))) ?_
    refine mv ?_
    refine st_end nfc_TMul_0 ?_
    refine then_n (wl_block ?_)
    refine wl_loop (α := Nat × List Rat) (fun st L => ((((((((((((St.mk L.slot (hp [(2, ⟨3, [.agg [nI64 U1, nI64 V1, .list 3 (a.map ratL)]], true⟩), (3, ⟨3, [.agg [nI64 U2, nI64 V2, .list 3 (b.map ratL)]], true⟩), (4, ⟨3, [.agg [.v (.int .i64 0), .v (.int .i64 0), .v (.slice none 0 0)]], true⟩), (6, ⟨3, [.agg [nI64 (U1 + U2), nI64 (V1 + V2), .ref 55 3 0 ((U1 + U2 + 1) * (V1 + V2 + 1))]], true⟩), (55, ⟨3, st.2.map ratL, true⟩)])).put (some 2) (.eptr 2 3 0 0)).put (some 3) (.eptr 3 3 0 0)).put (some 4) (.eptr 4 3 0 0)).put (some 6) (.eptr 6 3 0 0)).put (some 7) (.list 3 ((wtL U1 V1 a).map ratL))).put (some 8) (.list 3 ((wtL U2 V2 b).map ratL))).put (some 63) (nI64 (U1 + 1))).put (some 64) (nI64 i)).put (some 9) (nI64 i)).put (some 69) (nI64 (V1 + 1))).put (some 70) (nI64 st.1))) (fun st => st.1 ≤ V1 + 1 ∧ st.2 = mJ V1 V2 (V1 + V2) U2 (wtL U1 V1 a) (wtL U2 V2 b) i st.1 oI ∧ st.2.length = ((U1 + U2 + 1) * (V1 + V2 + 1)) ∧ ∀ x ∈ st.2, rl x ≤ 1 + i * z3 + st.1 * z2) (fun st => V1 + 1 - st.1) (0, oI) (show (0) ≤ V1 + 1 ∧ (oI) = mJ V1 V2 (V1 + V2) U2 (wtL U1 V1 a) (wtL U2 V2 b) i (0) oI ∧ (oI).length = ((U1 + U2 + 1) * (V1 + V2 + 1)) ∧ ∀ x ∈ (oI), rl x ≤ 1 + i * z3 + (0) * z2 from ⟨Nat.zero_le _, rfl, hlI, fun x hx => by rw [Nat.zero_mul]; exact hrI x hx⟩) ⟨_, Weak.of_eq (put_id' (put_id' (put_id' (put_id' (put_id' (put_id' (put_id' (put_id' (put_id' (put_id' (put_id' (mk_id' clc_TMul_2) clc_TMul_2) clc_TMul_2) clc_TMul_2) clc_TMul_2) clc_TMul_2) clc_TMul_2) clc_TMul_2) clc_TMul_2) clc_TMul_2) clc_TMul_2) clc_TMul_2)⟩ ?_
    rintro ⟨j, oJ⟩ L2 hLC
    obtain ⟨hj, hoJ, hlJ, hrJ⟩ : j ≤ V1 + 1 ∧ oJ = mJ V1 V2 (V1 + V2) U2 (wtL U1 V1 a) (wtL U2 V2 b) i j oI ∧ oJ.length = ((U1 + U2 + 1) * (V1 + V2 + 1)) ∧ ∀ x ∈ oJ, rl x ≤ 1 + i * z3 + j * z2 := hLC
    show wpL _ _ _ ((((((((((((St.mk L2.slot (hp [(2, ⟨3, [.agg [nI64 U1, nI64 V1, .list 3 (a.map ratL)]], true⟩), (3, ⟨3, [.agg [nI64 U2, nI64 V2, .list 3 (b.map ratL)]], true⟩), (4, ⟨3, [.agg [.v (.int .i64 0), .v (.int .i64 0), .v (.slice none 0 0)]], true⟩), (6, ⟨3, [.agg [nI64 (U1 + U2), nI64 (V1 + V2), .ref 55 3 0 ((U1 + U2 + 1) * (V1 + V2 + 1))]], true⟩), (55, ⟨3, oJ.map ratL, true⟩)])).put (some 2) (.eptr 2 3 0 0)).put (some 3) (.eptr 3 3 0 0)).put (some 4) (.eptr 4 3 0 0)).put (some 6) (.eptr 6 3 0 0)).put (some 7) (.list 3 ((wtL U1 V1 a).map ratL))).put (some 8) (.list 3 ((wtL U2 V2 b).map ratL))).put (some 63) (nI64 (U1 + 1))).put (some 64) (nI64 i)).put (some 9) (nI64 i)).put (some 69) (nI64 (V1 + 1))).put (some 70) (nI64 j))
    refine wl_seq (wl_reg ?_)
    refine st_pure rfl (.bin rfl rfl rfl) ?_
    refine st_end nfc_TMul_0 ?_
    refine then_n (wl_seq ?_)
    refine wl_cond rfl (fun h71 => ?_) (fun h71 => ?_)
    · skip
      have h71r := h71
      try simp only [hce, l1, t0, t1, dflt, val_dig] at h71
      have hj2 : j ≤ V1 := by omega
      have hj3 : j * z2 + z2 ≤ z3 := by rw [← Nat.succ_mul, ← hz3]; exact Nat.mul_le_mul_right _ (by omega)
      refine wl_skip (then_n (wl_seq (wl_block (wl_seq (wl_reg (mv (asg ?_)))))))
      refine st_end nfc_TMul_0 ?_
      refine then_n (wl_seq (wl_reg ?_))
      refine st_pure rfl fa27 ?_
      refine st_pure rfl ld3 ?_
      refine st_pure rfl (.bin rfl rfl (add1N (by omega))) ?_
      refine mv ?_
      refine st_end nfc_TMul_0 ?_
      refine then_n (wl_block ?_)
      refine wl_loop (α := Nat × List Rat) (fun st L => (((((((((((((((St.mk L.slot (hp [(2, ⟨3, [.agg [nI64 U1, nI64 V1, .list 3 (a.map ratL)]], true⟩), (3, ⟨3, [.agg [nI64 U2, nI64 V2, .list 3 (b.map ratL)]], true⟩), (4, ⟨3, [.agg [.v (.int .i64 0), .v (.int .i64 0), .v (.slice none 0 0)]], true⟩), (6, ⟨3, [.agg [nI64 (U1 + U2), nI64 (V1 + V2), .ref 55 3 0 ((U1 + U2 + 1) * (V1 + V2 + 1))]], true⟩), (55, ⟨3, st.2.map ratL, true⟩)])).put (some 2) (.eptr 2 3 0 0)).put (some 3) (.eptr 3 3 0 0)).put (some 4) (.eptr 4 3 0 0)).put (some 6) (.eptr 6 3 0 0)).put (some 7) (.list 3 ((wtL U1 V1 a).map ratL))).put (some 8) (.list 3 ((wtL U2 V2 b).map ratL))).put (some 63) (nI64 (U1 + 1))).put (some 64) (nI64 i)).put (some 9) (nI64 i)).put (some 69) (nI64 (V1 + 1))).put (some 70) (nI64 j)).put (some 10) (nI64 j)).put (some 75) (nI64 (U2 + 1))).put (some 76) (nI64 st.1))) (fun st => st.1 ≤ U2 + 1 ∧ st.2 = mK V1 V2 (V1 + V2) (wtL U1 V1 a) (wtL U2 V2 b) i j st.1 oJ ∧ st.2.length = ((U1 + U2 + 1) * (V1 + V2 + 1)) ∧ ∀ x ∈ st.2, rl x ≤ 1 + i * z3 + j * z2 + st.1 * z1) (fun st => U2 + 1 - st.1) (0, oJ) (show (0) ≤ U2 + 1 ∧ (oJ) = mK V1 V2 (V1 + V2) (wtL U1 V1 a) (wtL U2 V2 b) i j (0) oJ ∧ (oJ).length = ((U1 + U2 + 1) * (V1 + V2 + 1)) ∧ ∀ x ∈ (oJ), rl x ≤ 1 + i * z3 + j * z2 + (0) * z1 from ⟨Nat.zero_le _, rfl, hlJ, fun x hx => by rw [Nat.zero_mul]; exact hrJ x hx⟩) ⟨_, Weak.of_eq (put_id' (put_id' (put_id' (put_id' (put_id' (put_id' (put_id' (put_id' (put_id' (put_id' (put_id' (put_id' (put_id' (put_id' (mk_id' clc_TMul_2) clc_TMul_2) clc_TMul_2) clc_TMul_2) clc_TMul_2) clc_TMul_2) clc_TMul_2) clc_TMul_2) clc_TMul_2) clc_TMul_2) clc_TMul_2) clc_TMul_2) clc_TMul_2) clc_TMul_2) clc_TMul_2)⟩ ?_
      rintro ⟨k, oK⟩ L3 hLC
      obtain ⟨hk, hoK, hlK, hrK⟩ : k ≤ U2 + 1 ∧ oK = mK V1 V2 (V1 + V2) (wtL U1 V1 a) (wtL U2 V2 b) i j k oJ ∧ oK.length = ((U1 + U2 + 1) * (V1 + V2 + 1)) ∧ ∀ x ∈ oK, rl x ≤ 1 + i * z3 + j * z2 + k * z1 := hLC
      show wpL _ _ _ (((((((((((((((St.mk L3.slot (hp [(2, ⟨3, [.agg [nI64 U1, nI64 V1, .list 3 (a.map ratL)]], true⟩), (3, ⟨3, [.agg [nI64 U2, nI64 V2, .list 3 (b.map ratL)]], true⟩), (4, ⟨3, [.agg [.v (.int .i64 0), .v (.int .i64 0), .v (.slice none 0 0)]], true⟩), (6, ⟨3, [.agg [nI64 (U1 + U2), nI64 (V1 + V2), .ref 55 3 0 ((U1 + U2 + 1) * (V1 + V2 + 1))]], true⟩), (55, ⟨3, oK.map ratL, true⟩)])).put (some 2) (.eptr 2 3 0 0)).put (some 3) (.eptr 3 3 0 0)).put (some 4) (.eptr 4 3 0 0)).put (some 6) (.eptr 6 3 0 0)).put (some 7) (.list 3 ((wtL U1 V1 a).map ratL))).put (some 8) (.list 3 ((wtL U2 V2 b).map ratL))).put (some 63) (nI64 (U1 + 1))).put (some 64) (nI64 i)).put (some 9) (nI64 i)).put (some 69) (nI64 (V1 + 1))).put (some 70) (nI64 j)).put (some 10) (nI64 j)).put (some 75) (nI64 (U2 + 1))).put (some 76) (nI64 k))
      refine wl_seq (wl_reg ?_)
      refine st_pure rfl (.bin rfl rfl rfl) ?_
      refine st_end nfc_TMul_0 ?_
      refine then_n (wl_seq ?_)
      refine wl_cond rfl (fun h77 => ?_) (fun h77 => ?_)
      · skip
        have h77r := h77
        try simp only [hce, l1, t0, t1, dflt, val_dig] at h77
        have hk2 : k ≤ U2 := by omega
        have hk3 : k * z1 + z1 ≤ z2 := by rw [← Nat.succ_mul, ← hz2]; exact Nat.mul_le_mul_right _ (by omega)
        refine wl_skip (then_n (wl_seq (wl_block (wl_seq (wl_reg (mv (asg ?_)))))))
        refine st_end nfc_TMul_0 ?_
        refine then_n (wl_seq (wl_reg ?_))
        refine st_pure rfl fa27 ?_
        refine st_pure rfl ld3 ?_
        refine st_pure rfl (.bin rfl rfl (add1N (by omega))) ?_
        refine mv ?_
        refine st_end nfc_TMul_0 ?_
        refine then_n (wl_block ?_)
        refine wl_loop (α := Nat × List Rat) (fun st L => ((((((((((((((((((St.mk L.slot (hp [(2, ⟨3, [.agg [nI64 U1, nI64 V1, .list 3 (a.map ratL)]], true⟩), (3, ⟨3, [.agg [nI64 U2, nI64 V2, .list 3 (b.map ratL)]], true⟩), (4, ⟨3, [.agg [.v (.int .i64 0), .v (.int .i64 0), .v (.slice none 0 0)]], true⟩), (6, ⟨3, [.agg [nI64 (U1 + U2), nI64 (V1 + V2), .ref 55 3 0 ((U1 + U2 + 1) * (V1 + V2 + 1))]], true⟩), (55, ⟨3, st.2.map ratL, true⟩)])).put (some 2) (.eptr 2 3 0 0)).put (some 3) (.eptr 3 3 0 0)).put (some 4) (.eptr 4 3 0 0)).put (some 6) (.eptr 6 3 0 0)).put (some 7) (.list 3 ((wtL U1 V1 a).map ratL))).put (some 8) (.list 3 ((wtL U2 V2 b).map ratL))).put (some 63) (nI64 (U1 + 1))).put (some 64) (nI64 i)).put (some 9) (nI64 i)).put (some 69) (nI64 (V1 + 1))).put (some 70) (nI64 j)).put (some 10) (nI64 j)).put (some 75) (nI64 (U2 + 1))).put (some 76) (nI64 k)).put (some 11) (nI64 k)).put (some 81) (nI64 (V2 + 1))).put (some 82) (nI64 st.1))) (fun st => st.1 ≤ V2 + 1 ∧ st.2 = mL V1 V2 (V1 + V2) (wtL U1 V1 a) (wtL U2 V2 b) i j k st.1 oK ∧ st.2.length = ((U1 + U2 + 1) * (V1 + V2 + 1)) ∧ ∀ x ∈ st.2, rl x ≤ 1 + i * z3 + j * z2 + k * z1 + st.1 * (2 * R + 14)) (fun st => V2 + 1 - st.1) (0, oK) (show (0) ≤ V2 + 1 ∧ (oK) = mL V1 V2 (V1 + V2) (wtL U1 V1 a) (wtL U2 V2 b) i j k (0) oK ∧ (oK).length = ((U1 + U2 + 1) * (V1 + V2 + 1)) ∧ ∀ x ∈ (oK), rl x ≤ 1 + i * z3 + j * z2 + k * z1 + (0) * (2 * R + 14) from ⟨Nat.zero_le _, rfl, hlK, fun x hx => by rw [Nat.zero_mul]; exact hrK x hx⟩) ⟨_, Weak.of_eq (put_id' (put_id' (put_id' (put_id' (put_id' (put_id' (put_id' (put_id' (put_id' (put_id' (put_id' (put_id' (put_id' (put_id' (put_id' (put_id' (put_id' (mk_id' clc_TMul_2) clc_TMul_2) clc_TMul_2) clc_TMul_2) clc_TMul_2) clc_TMul_2) clc_TMul_2) clc_TMul_2) clc_TMul_2) clc_TMul_2) clc_TMul_2) clc_TMul_2) clc_TMul_2) clc_TMul_2) clc_TMul_2) clc_TMul_2) clc_TMul_2) clc_TMul_2)⟩ ?_
        rintro ⟨l, o⟩ L4 hLC
        obtain ⟨hl, ho, hlL, hrL⟩ : l ≤ V2 + 1 ∧ o = mL V1 V2 (V1 + V2) (wtL U1 V1 a) (wtL U2 V2 b) i j k l oK ∧ o.length = ((U1 + U2 + 1) * (V1 + V2 + 1)) ∧ ∀ x ∈ o, rl x ≤ 1 + i * z3 + j * z2 + k * z1 + l * (2 * R + 14) := hLC
        show wpL _ _ _ ((((((((((((((((((St.mk L4.slot (hp [(2, ⟨3, [.agg [nI64 U1, nI64 V1, .list 3 (a.map ratL)]], true⟩), (3, ⟨3, [.agg [nI64 U2, nI64 V2, .list 3 (b.map ratL)]], true⟩), (4, ⟨3, [.agg [.v (.int .i64 0), .v (.int .i64 0), .v (.slice none 0 0)]], true⟩), (6, ⟨3, [.agg [nI64 (U1 + U2), nI64 (V1 + V2), .ref 55 3 0 ((U1 + U2 + 1) * (V1 + V2 + 1))]], true⟩), (55, ⟨3, o.map ratL, true⟩)])).put (some 2) (.eptr 2 3 0 0)).put (some 3) (.eptr 3 3 0 0)).put (some 4) (.eptr 4 3 0 0)).put (some 6) (.eptr 6 3 0 0)).put (some 7) (.list 3 ((wtL U1 V1 a).map ratL))).put (some 8) (.list 3 ((wtL U2 V2 b).map ratL))).put (some 63) (nI64 (U1 + 1))).put (some 64) (nI64 i)).put (some 9) (nI64 i)).put (some 69) (nI64 (V1 + 1))).put (some 70) (nI64 j)).put (some 10) (nI64 j)).put (some 75) (nI64 (U2 + 1))).put (some 76) (nI64 k)).put (some 11) (nI64 k)).put (some 81) (nI64 (V2 + 1))).put (some 82) (nI64 l))
        refine wl_seq (wl_reg ?_)
        refine st_pure rfl (.bin rfl rfl rfl) ?_
        refine st_end nfc_TMul_0 ?_
        refine then_n (wl_seq ?_)
        refine wl_cond rfl (fun h83 => ?_) (fun h83 => ?_)
        · skip
          have h83r := h83
          try simp only [hce, l1, t0, t1, dflt, val_dig] at h83
          have hl2 : l ≤ V2 := by omega
          have hl3 : l * (2 * R + 14) + (2 * R + 14) ≤ z1 := by rw [← Nat.succ_mul, ← hz1]; exact Nat.mul_le_mul_right _ (by omega)
          have hx1 := ix_lt (U := U1 + U2) (V := V1 + V2) (i := i + k) (j := j + l) (by omega) (by omega)
          have hx2 := ix_lt hi2 hj2
          have hx3 := ix_lt hk2 hl2
          rw [← ha] at hx2
          rw [← hb] at hx3
          have hr1 := getD_rl (S := R + 6) (by omega) hwa (i * (V1 + 1) + j)
          have hr2 := getD_rl (S := R + 6) (by omega) hwb (k * (V2 + 1) + l)
          have hr3 := getD_rl (by omega) hrL ((i + k) * (V1 + V2 + 1) + j + l)
          have hr4 := rl_mul ((wtL U1 V1 a).getD (i * (V1 + 1) + j) 0) ((wtL U2 V2 b).getD (k * (V2 + 1) + l) 0)
          have hr5 := rl_add (o.getD ((i + k) * (V1 + V2 + 1) + j + l) 0) ((wtL U1 V1 a).getD (i * (V1 + 1) + j) 0 * (wtL U2 V2 b).getD (k * (V2 + 1) + l) 0)
          refine wl_skip (then_n (wl_seq (wl_block (wl_seq (wl_reg (mv (asg ?_)))))))
          refine st_end nfc_TMul_0 ?_
          refine then_n (wl_seq (wl_reg (mv (mv ?_))))
          refine st_pure rfl (.bin rfl rfl (add64N (by omega))) ?_
          refine st_pure rfl fa27 ?_
          refine st_pure rfl ld3 ?_
          refine st_pure rfl (.bin rfl rfl (add1N (by omega))) ?_
          refine st_pure rfl (.bin rfl rfl (mulE rfl (by omega))) ?_
          refine mv ?_
          refine st_pure rfl (.bin rfl rfl (add64N (by omega))) ?_
          refine mv ?_
          refine st_pure rfl (.bin rfl rfl (add64N (by omega))) ?_
          refine asg ?_
          refine st_end nfc_TMul_0 ?_
          refine then_n ?_
          refine wl_regD 31 (by decide +kernel) ?_
          refine st_pure rfl fa27 ?_
          refine st_pure rfl ld25 ?_
          refine mv ?_
          refine st_pure rfl fa27 ?_
          refine st_pure rfl ld25 ?_
          refine mv ?_
          refine st_pure rfl ix25 ?_
          refine st_pure rfl ld34 ?_
          try simp only [t1, dfq, Nat.zero_add]
          refine mv (mv ?_)
          refine st_pure rfl fa27 ?_
          refine st_pure rfl ld3 ?_
          refine st_pure rfl (.bin rfl rfl (add1N (by omega))) ?_
          refine st_pure rfl (.bin rfl rfl (mulE rfl (by omega))) ?_
          refine mv ?_
          refine st_pure rfl (.bin rfl rfl (add64N (by omega))) ?_
          refine st_pure rfl ix25 ?_
          refine st_pure rfl ld34 ?_
          refine mv (mv ?_)
          refine st_pure rfl fa27 ?_
          refine st_pure rfl ld3 ?_
          refine st_pure rfl (.bin rfl rfl (add1N (by omega))) ?_
          refine st_pure rfl (.bin rfl rfl (mulE rfl (by omega))) ?_
          refine mv ?_
          refine st_pure rfl (.bin rfl rfl (add64N (by omega))) ?_
          refine st_pure rfl ix25 ?_
          refine st_pure rfl ld34 ?_
          refine st_callP rfl (.cons im0 (.cons im0 .nil)) (c_RMul ((wtL U1 V1 a).getD (i * (V1 + 1) + j) 0) ((wtL U2 V2 b).getD (k * (V2 + 1) + l) 0) (by omega)) ?_
          refine st_callP rfl (.cons im0 (.cons im0 .nil)) (c_RAdd (o.getD ((i + k) * (V1 + V2 + 1) + j + l) 0) ((wtL U1 V1 a).getD (i * (V1 + 1) + j) 0 * (wtL U2 V2 b).getD (k * (V2 + 1) + l) 0) (by omega)) ?_
          refine st_pure rfl ix25 ?_
          refine st_store rfl sr34 ?_
          refine st_end nfc_TMul_0 ?_
          refine blk_n (then_n (wl_reg ?_))
          refine st_pure rfl (.bin rfl rfl (add64 om om)) ?_
          refine mv ?_
          refine st_end nfc_TMul_0 ?_
          refine then_n ?_
          exact ⟨(l + 1, o.set ((i + k) * (V1 + V2 + 1) + j + l) (o.getD ((i + k) * (V1 + V2 + 1) + j + l) 0 + (wtL U1 V1 a).getD (i * (V1 + 1) + j) 0 * (wtL U2 V2 b).getD (k * (V2 + 1) + l) 0)), _, (show (l + 1) ≤ V2 + 1 ∧ (o.set ((i + k) * (V1 + V2 + 1) + j + l) (o.getD ((i + k) * (V1 + V2 + 1) + j + l) 0 + (wtL U1 V1 a).getD (i * (V1 + 1) + j) 0 * (wtL U2 V2 b).getD (k * (V2 + 1) + l) 0)) = mL V1 V2 (V1 + V2) (wtL U1 V1 a) (wtL U2 V2 b) i j k (l + 1) oK ∧ (o.set ((i + k) * (V1 + V2 + 1) + j + l) (o.getD ((i + k) * (V1 + V2 + 1) + j + l) 0 + (wtL U1 V1 a).getD (i * (V1 + 1) + j) 0 * (wtL U2 V2 b).getD (k * (V2 + 1) + l) 0)).length = ((U1 + U2 + 1) * (V1 + V2 + 1)) ∧ ∀ x ∈ (o.set ((i + k) * (V1 + V2 + 1) + j + l) (o.getD ((i + k) * (V1 + V2 + 1) + j + l) 0 + (wtL U1 V1 a).getD (i * (V1 + 1) + j) 0 * (wtL U2 V2 b).getD (k * (V2 + 1) + l) 0)), rl x ≤ 1 + i * z3 + j * z2 + k * z1 + (l + 1) * (2 * R + 14) from ⟨by omega, by rw [ho]; rfl, by rw [List.length_set]; exact hlL, set_rl (fun x hx => by have := hrL x hx; rw [Nat.succ_mul]; omega) (by rw [Nat.succ_mul]; omega)⟩), (show V2 + 1 - (l + 1) < V2 + 1 - l from by omega), Weak.of_eq (put_id' (put_id' (put_id' (put_id' (put_id' (put_id' (put_id' (put_id' (put_id' (put_id' (put_id' (put_id' (put_id' (put_id' (put_id' (put_id' (put_id' (mk_id' clc_TMul_2) clc_TMul_2) clc_TMul_2) clc_TMul_2) clc_TMul_2) clc_TMul_2) clc_TMul_2) clc_TMul_2) clc_TMul_2) clc_TMul_2) clc_TMul_2) clc_TMul_2) clc_TMul_2) clc_TMul_2) clc_TMul_2) clc_TMul_2) clc_TMul_2) clc_TMul_2)⟩
        · skip
          have h83r := h83
          try simp only [hce, l1, t0, t1, dflt, val_dig] at h83
          obtain rfl : l = V2 + 1 := by omega
          refine wl_exit ?_
          refine then_e (then_e (blk_e (blk_n (then_n (wl_reg ?_)))))
          refine st_pure rfl (.bin rfl rfl (add64 om om)) ?_
          refine mv ?_
          refine st_end nfc_TMul_0 ?_
          refine then_n ?_
          exact ⟨(k + 1, o), _, (show (k + 1) ≤ U2 + 1 ∧ (o) = mK V1 V2 (V1 + V2) (wtL U1 V1 a) (wtL U2 V2 b) i j (k + 1) oJ ∧ (o).length = ((U1 + U2 + 1) * (V1 + V2 + 1)) ∧ ∀ x ∈ (o), rl x ≤ 1 + i * z3 + j * z2 + (k + 1) * z1 from ⟨by omega, by rw [ho, hoK]; rfl, hlL, fun x hx => by have := hrL x hx; rw [hz1] at this; rw [Nat.succ_mul]; omega⟩), (show U2 + 1 - (k + 1) < U2 + 1 - k from by omega), Weak.of_eq (put_id' (put_id' (put_id' (put_id' (put_id' (put_id' (put_id' (put_id' (put_id' (put_id' (put_id' (put_id' (put_id' (put_id' (mk_id' clc_TMul_2) clc_TMul_2) clc_TMul_2) clc_TMul_2) clc_TMul_2) clc_TMul_2) clc_TMul_2) clc_TMul_2) clc_TMul_2) clc_TMul_2) clc_TMul_2) clc_TMul_2) clc_TMul_2) clc_TMul_2) clc_TMul_2)⟩
      · skip
        have h77r := h77
        try simp only [hce, l1, t0, t1, dflt, val_dig] at h77
        obtain rfl : k = U2 + 1 := by omega
        rw [hz2] at hrK
        refine wl_exit ?_
        refine then_e (then_e (blk_e (blk_n (then_n (wl_reg ?_)))))
        refine st_pure rfl (.bin rfl rfl (add64 om om)) ?_
        refine mv ?_
        refine st_end nfc_TMul_0 ?_
        refine then_n ?_
        exact ⟨(j + 1, oK), _, (show (j + 1) ≤ V1 + 1 ∧ (oK) = mJ V1 V2 (V1 + V2) U2 (wtL U1 V1 a) (wtL U2 V2 b) i (j + 1) oI ∧ (oK).length = ((U1 + U2 + 1) * (V1 + V2 + 1)) ∧ ∀ x ∈ (oK), rl x ≤ 1 + i * z3 + (j + 1) * z2 from ⟨by omega, by rw [hoK, hoJ]; rfl, hlK, fun x hx => by have := hrK x hx; rw [Nat.succ_mul]; omega⟩), (show V1 + 1 - (j + 1) < V1 + 1 - j from by omega), Weak.of_eq (put_id' (put_id' (put_id' (put_id' (put_id' (put_id' (put_id' (put_id' (put_id' (put_id' (put_id' (mk_id' clc_TMul_2) clc_TMul_2) clc_TMul_2) clc_TMul_2) clc_TMul_2) clc_TMul_2) clc_TMul_2) clc_TMul_2) clc_TMul_2) clc_TMul_2) clc_TMul_2) clc_TMul_2)⟩
    · skip
      have h71r := h71
      try simp only [hce, l1, t0, t1, dflt, val_dig] at h71
      obtain rfl : j = V1 + 1 := by omega
      rw [hz3] at hrJ
      refine wl_exit ?_
      refine then_e (then_e (blk_e (blk_n (then_n (wl_reg ?_)))))
      refine st_pure rfl (.bin rfl rfl (add64 om om)) ?_
      refine mv ?_
      refine st_end nfc_TMul_0 ?_
      refine then_n ?_
      exact ⟨(i + 1, oJ), _, (show (i + 1) ≤ U1 + 1 ∧ (oJ) = mI V1 V2 (V1 + V2) U2 (wtL U1 V1 a) (wtL U2 V2 b) (i + 1) (List.replicate ((U1 + U2 + 1) * (V1 + V2 + 1)) 0) ∧ (oJ).length = ((U1 + U2 + 1) * (V1 + V2 + 1)) ∧ ∀ x ∈ (oJ), rl x ≤ 1 + (i + 1) * z3 from ⟨by omega, by rw [hoJ, hoI]; rfl, hlJ, fun x hx => by have := hrJ x hx; rw [Nat.succ_mul]; omega⟩), (show U1 + 1 - (i + 1) < U1 + 1 - i from by omega), Weak.of_eq (put_id' (put_id' (put_id' (put_id' (put_id' (put_id' (put_id' (put_id' (mk_id' clc_TMul_2) clc_TMul_2) clc_TMul_2) clc_TMul_2) clc_TMul_2) clc_TMul_2) clc_TMul_2) clc_TMul_2) clc_TMul_2)⟩
  · skip
    have h65r := h65
    try simp only [hce, l1, t0, t1, dflt, val_dig] at h65
    obtain rfl : i = U1 + 1 := by omega
    have hOF : oI = (mTop U1 V1 U2 V2 a b) := hoI
    clear hoI
    subst hOF
    refine wl_exit ?_
    refine then_e (then_e (blk_e (then_n (wl_seq ?_))))
    refine wl_regD 8 (by decide +kernel) ?_
    refine st_pure rfl fa27 ?_
    refine st_pure rfl ld3 ?_
    refine st_callP rfl (.cons im0 .nil) (c_choose7 (U1 + U2) hu) ?_
    refine st_pure rfl fa27 ?_
    refine st_pure rfl ld3 ?_
    refine st_callP rfl (.cons im0 .nil) (c_choose7 (V1 + V2) hv) ?_
    refine asg (asg ?_)
    refine st_end nfc_TMul_0 ?_
    refine then_n (wl_seq (wl_seq (wl_reg (mv ?_))))
    refine st_pure rfl ln95 ?_
    refine mv ?_
    refine st_end nfc_TMul_0 ?_
    refine then_n (wl_block ?_)
    refine wl_loop (α := Nat × Nat) (fun st L => (((((((((St.mk L.slot (hp [(2, ⟨3, [.agg [nI64 U1, nI64 V1, .list 3 (a.map ratL)]], true⟩), (3, ⟨3, [.agg [nI64 U2, nI64 V2, .list 3 (b.map ratL)]], true⟩), (4, ⟨3, [.agg [.v (.int .i64 0), .v (.int .i64 0), .v (.slice none 0 0)]], true⟩), (6, ⟨3, [.agg [nI64 (U1 + U2), nI64 (V1 + V2), .ref 55 3 0 ((U1 + U2 + 1) * (V1 + V2 + 1))]], true⟩), (55, ⟨3, (gL st.2 (dvV (U1 + U2) (V1 + V2) (mTop U1 V1 U2 V2 a b)) ++ (mTop U1 V1 U2 V2 a b).drop st.2).map ratL, true⟩)])).put (some 2) (.eptr 2 3 0 0)).put (some 3) (.eptr 3 3 0 0)).put (some 4) (.eptr 4 3 0 0)).put (some 6) (.eptr 6 3 0 0)).put (some 14) (.list 1 ((rowI (U1 + U2)).map i64L))).put (some 15) (.list 1 ((rowI (V1 + V2)).map i64L))).put (some 138) (nI64 (U1 + U2 + 1))).put (some 139) (nI64 st.1))) (fun st => st.1 ≤ U1 + U2 + 1 ∧ st.1 * (V1 + V2 + 1) = st.2) (fun st => U1 + U2 + 1 - st.1) (0, 0) (show (0) ≤ U1 + U2 + 1 ∧ (0) * (V1 + V2 + 1) = (0) from ⟨Nat.zero_le _, Nat.zero_mul _⟩) ⟨_, Weak.of_eq (put_id' (put_id' (put_id' (put_id' (put_id' (put_id' (put_id' (put_id' (mk_id' clc_TMul_3) clc_TMul_3) clc_TMul_3) clc_TMul_3) clc_TMul_3) clc_TMul_3) clc_TMul_3) clc_TMul_3) clc_TMul_3)⟩ ?_
    rintro ⟨i, m⟩ L5 hLC
    obtain ⟨hi, hm⟩ : i ≤ U1 + U2 + 1 ∧ i * (V1 + V2 + 1) = m := hLC
    show wpL _ _ _ (((((((((St.mk L5.slot (hp [(2, ⟨3, [.agg [nI64 U1, nI64 V1, .list 3 (a.map ratL)]], true⟩), (3, ⟨3, [.agg [nI64 U2, nI64 V2, .list 3 (b.map ratL)]], true⟩), (4, ⟨3, [.agg [.v (.int .i64 0), .v (.int .i64 0), .v (.slice none 0 0)]], true⟩), (6, ⟨3, [.agg [nI64 (U1 + U2), nI64 (V1 + V2), .ref 55 3 0 ((U1 + U2 + 1) * (V1 + V2 + 1))]], true⟩), (55, ⟨3, (gL m (dvV (U1 + U2) (V1 + V2) (mTop U1 V1 U2 V2 a b)) ++ (mTop U1 V1 U2 V2 a b).drop m).map ratL, true⟩)])).put (some 2) (.eptr 2 3 0 0)).put (some 3) (.eptr 3 3 0 0)).put (some 4) (.eptr 4 3 0 0)).put (some 6) (.eptr 6 3 0 0)).put (some 14) (.list 1 ((rowI (U1 + U2)).map i64L))).put (some 15) (.list 1 ((rowI (V1 + V2)).map i64L))).put (some 138) (nI64 (U1 + U2 + 1))).put (some 139) (nI64 i))
    refine wl_seq (wl_reg ?_)
    refine st_pure rfl (.bin rfl rfl rfl) ?_
    refine st_end nfc_TMul_0 ?_
    refine then_n (wl_seq ?_)
    refine wl_cond rfl (fun h140 => ?_) (fun h140 => ?_)
    · skip
      have h140r := h140
      try simp only [hce, l1, t0, t1, dflt, val_dig] at h140
      have hi2 : i ≤ U1 + U2 := by omega
      have egu := rowI_get hi2
      have hcu := chs_40 i hu
      refine wl_skip (then_n (wl_seq (wl_block (wl_seq (wl_reg (mv (asg ?_)))))))
      refine st_end nfc_TMul_0 ?_
      refine then_n (wl_seq (wl_reg (mv ?_)))
      refine st_pure rfl ln95 ?_
      refine mv ?_
      refine st_end nfc_TMul_0 ?_
      refine then_n (wl_block ?_)
      refine wl_loop (α := Nat) (fun st L => ((((((((((((St.mk L.slot (hp [(2, ⟨3, [.agg [nI64 U1, nI64 V1, .list 3 (a.map ratL)]], true⟩), (3, ⟨3, [.agg [nI64 U2, nI64 V2, .list 3 (b.map ratL)]], true⟩), (4, ⟨3, [.agg [.v (.int .i64 0), .v (.int .i64 0), .v (.slice none 0 0)]], true⟩), (6, ⟨3, [.agg [nI64 (U1 + U2), nI64 (V1 + V2), .ref 55 3 0 ((U1 + U2 + 1) * (V1 + V2 + 1))]], true⟩), (55, ⟨3, (gL (m + st) (dvV (U1 + U2) (V1 + V2) (mTop U1 V1 U2 V2 a b)) ++ (mTop U1 V1 U2 V2 a b).drop (m + st)).map ratL, true⟩)])).put (some 2) (.eptr 2 3 0 0)).put (some 3) (.eptr 3 3 0 0)).put (some 4) (.eptr 4 3 0 0)).put (some 6) (.eptr 6 3 0 0)).put (some 14) (.list 1 ((rowI (U1 + U2)).map i64L))).put (some 15) (.list 1 ((rowI (V1 + V2)).map i64L))).put (some 138) (nI64 (U1 + U2 + 1))).put (some 139) (nI64 i)).put (some 16) (nI64 i)).put (some 143) (nI64 (V1 + V2 + 1))).put (some 144) (nI64 st))) (fun st => st ≤ V1 + V2 + 1) (fun st => V1 + V2 + 1 - st) 0 (show (0) ≤ V1 + V2 + 1 from Nat.zero_le _) ⟨_, Weak.of_eq (put_id' (put_id' (put_id' (put_id' (put_id' (put_id' (put_id' (put_id' (put_id' (put_id' (put_id' (mk_id' clc_TMul_2) clc_TMul_2) clc_TMul_2) clc_TMul_2) clc_TMul_2) clc_TMul_2) clc_TMul_2) clc_TMul_2) clc_TMul_2) clc_TMul_2) clc_TMul_2) clc_TMul_2)⟩ ?_
      rintro j L6 hLC
      have hj : j ≤ V1 + V2 + 1 := hLC
      clear hLC
      show wpL _ _ _ ((((((((((((St.mk L6.slot (hp [(2, ⟨3, [.agg [nI64 U1, nI64 V1, .list 3 (a.map ratL)]], true⟩), (3, ⟨3, [.agg [nI64 U2, nI64 V2, .list 3 (b.map ratL)]], true⟩), (4, ⟨3, [.agg [.v (.int .i64 0), .v (.int .i64 0), .v (.slice none 0 0)]], true⟩), (6, ⟨3, [.agg [nI64 (U1 + U2), nI64 (V1 + V2), .ref 55 3 0 ((U1 + U2 + 1) * (V1 + V2 + 1))]], true⟩), (55, ⟨3, (gL (m + j) (dvV (U1 + U2) (V1 + V2) (mTop U1 V1 U2 V2 a b)) ++ (mTop U1 V1 U2 V2 a b).drop (m + j)).map ratL, true⟩)])).put (some 2) (.eptr 2 3 0 0)).put (some 3) (.eptr 3 3 0 0)).put (some 4) (.eptr 4 3 0 0)).put (some 6) (.eptr 6 3 0 0)).put (some 14) (.list 1 ((rowI (U1 + U2)).map i64L))).put (some 15) (.list 1 ((rowI (V1 + V2)).map i64L))).put (some 138) (nI64 (U1 + U2 + 1))).put (some 139) (nI64 i)).put (some 16) (nI64 i)).put (some 143) (nI64 (V1 + V2 + 1))).put (some 144) (nI64 j))
      refine wl_seq (wl_reg ?_)
      refine st_pure rfl (.bin rfl rfl rfl) ?_
      refine st_end nfc_TMul_0 ?_
      refine then_n (wl_seq ?_)
      refine wl_cond rfl (fun h145 => ?_) (fun h145 => ?_)
      · skip
        have h145r := h145
        try simp only [hce, l1, t0, t1, dflt, val_dig] at h145
        have hj2 : j ≤ V1 + V2 := by omega
        have egv := rowI_get hj2
        have hcv := chs_40 j hv
        have hix := ix_lt hi2 hj2
        rw [hm] at hix
        have egd := get_gd (W := (dvV (U1 + U2) (V1 + V2) (mTop U1 V1 U2 V2 a b))) (o := (mTop U1 V1 U2 V2 a b)) (m := m + j)
        have hdv : (dvV (U1 + U2) (V1 + V2) (mTop U1 V1 U2 V2 a b)) (m + j) = (mTop U1 V1 U2 V2 a b).getD (m + j) 0 / ((((chs (U1 + U2) i : Nat) : Int) : Rat) * (((chs (V1 + V2) j : Nat) : Int) : Rat)) := by rw [dvV, ← hm, ix_div hj2, ix_mod hj2]
        have esd := set_gd (W := (dvV (U1 + U2) (V1 + V2) (mTop U1 V1 U2 V2 a b))) (o := (mTop U1 V1 U2 V2 a b)) (m := m + j) (by omega) hdv.symm
        have hgl : (gL (m + j) (dvV (U1 + U2) (V1 + V2) (mTop U1 V1 U2 V2 a b)) ++ (mTop U1 V1 U2 V2 a b).drop (m + j)).length = ((U1 + U2 + 1) * (V1 + V2 + 1)) := by rw [List.length_append, gL_len, List.length_drop]; omega
        have hr1 := chsR_rl i hu
        have hr2 := chsR_rl j hv
        have hr3 := getD_rl (by omega) hrI (m + j)
        have hr4 := rl_mul ((((chs (U1 + U2) i : Nat) : Int) : Rat)) ((((chs (V1 + V2) j : Nat) : Int) : Rat))
        refine wl_skip (then_n (wl_seq (wl_block (wl_seq (wl_reg (mv (asg ?_)))))))
        refine st_end nfc_TMul_0 ?_
        refine then_n (wl_seq (wl_reg (mv ?_)))
        refine st_pure rfl fa27 ?_
        refine st_pure rfl ld3 ?_
        refine st_pure rfl (.bin rfl rfl (add1N (by omega))) ?_
        refine st_pure rfl (.bin rfl rfl (mulE hm (by omega))) ?_
        refine mv ?_
        refine st_pure rfl (.bin rfl rfl (add64N (by omega))) ?_
        refine asg ?_
        refine st_end nfc_TMul_0 ?_
        refine then_n ?_
        refine wl_regF 24 [22] (by decide +kernel) ?_
        refine st_pure rfl fa27 ?_
        refine st_pure rfl ld25 ?_
        refine mv ?_
        refine st_pure rfl fa27 ?_
        refine st_pure rfl ld25 ?_
        refine mv ?_
        refine st_pure rfl ix25 ?_
        refine st_pure rfl ld34 ?_
        try simp only [t1, dfq, Nat.zero_add, egd]
        refine mv (mv ?_)
        refine st_pure rfl ix95 ?_
        refine st_pure rfl ld2 ?_
        try simp only [t1, dfi, Nat.zero_add, egu]
        refine st_callP rfl (.cons im0 .nil) (c_RInt ((chs (U1 + U2) i : Nat) : Int) (by omega) (by omega)) ?_
        refine mv (mv ?_)
        refine st_pure rfl ix95 ?_
        refine st_pure rfl ld2 ?_
        try simp only [t1, dfi, Nat.zero_add, egv]
        refine st_callP rfl (.cons im0 .nil) (c_RInt ((chs (V1 + V2) j : Nat) : Int) (by omega) (by omega)) ?_
        refine st_callP rfl (.cons im0 (.cons im0 .nil)) (c_RMul ((((chs (U1 + U2) i : Nat) : Int) : Rat)) ((((chs (V1 + V2) j : Nat) : Int) : Rat)) (by omega)) ?_
        refine st_callP rfl (.cons im0 (.cons im0 .nil)) (c_RQuo ((mTop U1 V1 U2 V2 a b).getD (m + j) 0) ((((chs (U1 + U2) i : Nat) : Int) : Rat) * (((chs (V1 + V2) j : Nat) : Int) : Rat)) (by omega)) ?_
        refine mv ?_
        refine st_pure rfl (.extract rfl rfl nt0) ?_
        refine st_pure rfl (.extract rfl rfl nt0) ?_
        refine st_pure rfl ix25 ?_
        refine st_store rfl sr34 ?_
        refine st_end nfc_TMul_0 ?_
        refine blk_n (then_n (wl_reg ?_))
        refine st_pure rfl (.bin rfl rfl (add64 om om)) ?_
        refine mv ?_
        refine st_end nfc_TMul_0 ?_
        refine then_n ?_
        exact ⟨j + 1, _, (show (j + 1) ≤ V1 + V2 + 1 from by omega), (show V1 + V2 + 1 - (j + 1) < V1 + V2 + 1 - j from by omega), Weak.of_eq (put_id' (put_id' (put_id' (put_id' (put_id' (put_id' (put_id' (put_id' (put_id' (put_id' (put_id' (mk_id' clc_TMul_2) clc_TMul_2) clc_TMul_2) clc_TMul_2) clc_TMul_2) clc_TMul_2) clc_TMul_2) clc_TMul_2) clc_TMul_2) clc_TMul_2) clc_TMul_2) clc_TMul_2)⟩
      · skip
        have h145r := h145
        try simp only [hce, l1, t0, t1, dflt, val_dig] at h145
        obtain rfl : j = V1 + V2 + 1 := by omega
        refine wl_exit ?_
        refine then_e (then_e (blk_e (blk_n (then_n (wl_reg ?_)))))
        refine st_pure rfl (.bin rfl rfl (add64 om om)) ?_
        refine mv ?_
        refine st_end nfc_TMul_0 ?_
        refine then_n ?_
        exact ⟨(i + 1, m + (V1 + V2 + 1)), _, (show (i + 1) ≤ U1 + U2 + 1 ∧ (i + 1) * (V1 + V2 + 1) = (m + (V1 + V2 + 1)) from ⟨by omega, by rw [Nat.succ_mul]; omega⟩), (show U1 + U2 + 1 - (i + 1) < U1 + U2 + 1 - i from by omega), Weak.of_eq (put_id' (put_id' (put_id' (put_id' (put_id' (put_id' (put_id' (put_id' (mk_id' clc_TMul_3) clc_TMul_3) clc_TMul_3) clc_TMul_3) clc_TMul_3) clc_TMul_3) clc_TMul_3) clc_TMul_3) clc_TMul_3)⟩
    · skip
      have h140r := h140
      try simp only [hce, l1, t0, t1, dflt, val_dig] at h140
      obtain rfl : i = U1 + U2 + 1 := by omega
      have hE : (gL m (dvV (U1 + U2) (V1 + V2) (mTop U1 V1 U2 V2 a b)) ++ (mTop U1 V1 U2 V2 a b).drop m) = tmL U1 V1 U2 V2 a b := by rw [← hm, List.drop_of_length_le (by omega), List.append_nil]; rfl
      refine wl_exit ?_
      refine then_e (then_e (blk_e (then_n (wl_seq (wl_reg ?_)))))
      refine st_pure rfl ld27 ?_
      refine st_store rfl (.store rfl rfl rfl rfl rfl rfl rfl T27 ne0) ?_
      refine asg ?_
      refine st_end nfc_TMul_0 ?_
      refine then_n (wl_ret ?_)
      rw [← hE]
      exact retCT [55] rfl rfl rfl rfl rfl T27 (.agg (.cons (.pure rfl) (.cons (.pure rfl) (.cons (imm_refm ratE rfl rfl (by rw [List.length_append, gL_len, List.length_drop]; omega)) .nil)))) rfl (.pure rfl)
end Go.Proofs.Ythhdcfhaldcheaa
