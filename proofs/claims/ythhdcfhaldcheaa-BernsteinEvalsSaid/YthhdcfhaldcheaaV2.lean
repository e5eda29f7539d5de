/- Derivatives, powers, mirrored polynomials, parts. -/
import Derived.Test.YthhdcfhaldcheaaV1
set_option linter.unusedVariables false
set_option linter.unusedSimpArgs false
namespace Go.Proofs.Ythhdcfhaldcheaa
open Go.Lg
/-! ### rows in place -/
theorem row_get {s q tl : List Rat} {i : Nat} (hs : s.length = q.length - 1) (h : i + 1 < q.length) : (s.take i ++ (q.drop i ++ tl)).getD i 0 = q.getD i 0 ∧ (s.take i ++ (q.drop i ++ tl)).getD (i + 1) 0 = q.getD (i + 1) 0 := by
  have hl : (s.take i).length = i := by rw [List.length_take]; omega
  constructor
  · rw [getD_app2 _ _ _ (by omega), hl, Nat.sub_self, getD_app1 _ _ _ (by simp; omega), getD_dropR, Nat.add_zero]
  · rw [getD_app2 _ _ _ (by omega), hl, getD_app1 _ _ _ (by simp; omega), getD_dropR]; congr 1; omega
theorem row_set {s q tl : List Rat} {i : Nat} {v : Rat} (hs : s.length = q.length - 1) (h : i + 1 < q.length) (hv : v = s.getD i 0) : (s.take i ++ (q.drop i ++ tl)).set i v = s.take (i + 1) ++ (q.drop (i + 1) ++ tl) := by
  subst hv
  have hl : (s.take i).length = i := by rw [List.length_take]; omega
  rw [List.drop_eq_getElem_cons (by omega), List.cons_append, set_mid _ _ _ _ hl.symm]
  have hs2 : i < s.length := by omega
  rw [List.take_succ_eq_append_getElem hs2, List.append_assoc]
  congr 1
  rw [List.getD_eq_getElem?_getD, List.getElem?_eq_getElem hs2]
  simp
theorem row_end {s q tl : List Rat} {k : Nat} (hs : s.length = q.length - 1) (h : q.length = k + 1) : s.take k ++ (q.drop k ++ tl) = s ++ (q.getD k 0 :: tl) := by
  rw [List.take_of_length_le (by omega), List.drop_eq_getElem_cons (by omega), List.drop_of_length_le (by omega), List.getD_eq_getElem?_getD, List.getElem?_eq_getElem (by omega)]
  simp
theorem row_len {s q tl : List Rat} {i : Nat} (hs : s.length = q.length - 1) (h : i < q.length) : (s.take i ++ (q.drop i ++ tl)).length = q.length + tl.length := by
  simp; omega
theorem dfl_sz {q : List Rat} {M k : Nat} (h : ∀ x ∈ q, (rl x + 1) * 2 ^ (k + 1) ≤ M) : ∀ x ∈ dfl q, (rl x + 1) * 2 ^ k ≤ M := by
  intro x hx
  obtain ⟨i, hi, rfl⟩ := mem_getD hx
  rw [dfl_len] at hi
  rw [dfl_get q i (by omega)]
  have h1 := h _ (getD_mem (p := q) (i := i) (by omega))
  have h2 := h _ (getD_mem (p := q) (i := i + 1) (by omega))
  have e1 := rl_sub (q.getD (i + 1) 0) (q.getD i 0)
  rw [Nat.pow_succ] at h1 h2
  have hle : rl (q.getD (i + 1) 0 - q.getD i 0) + 1 ≤ (rl (q.getD i 0) + 1) + (rl (q.getD (i + 1) 0) + 1) := by omega
  have := Nat.mul_le_mul_right (2 ^ k) hle
  have e6 := Nat.add_mul (rl (q.getD i 0) + 1) (rl (q.getD (i + 1) 0) + 1) (2 ^ k)
  have e4 : (rl (q.getD i 0) + 1) * (2 ^ k * 2) = (rl (q.getD i 0) + 1) * 2 ^ k * 2 := by rw [Nat.mul_assoc]
  have e5 : (rl (q.getD (i + 1) 0) + 1) * (2 ^ k * 2) = (rl (q.getD (i + 1) 0) + 1) * 2 ^ k * 2 := by rw [Nat.mul_assoc]
  omega
theorem top_step {p : List Rat} {k : Nat} {tl : List Rat} (h : k < p.length) : (topP p).take (k + 1) = (topP p).take k ++ [(chR (p.length - 1)).getD k 0 * (dfk k p).getD 0 0] := by
  have hl := topP_len p
  rw [List.take_succ_eq_append_getElem (by omega)]
  congr 1
  have := topP_get h
  rw [List.getD_eq_getElem?_getD, List.getElem?_eq_getElem (by omega)] at this
  simpa using this
theorem sgnR_z {a : Rat} (h : sgnR a = 0) : a = 0 := by
  rcases sgn_cases a with ⟨g, e⟩ | ⟨_, e⟩ | ⟨_, e⟩
  · exact g
  · rw [e] at h; cases h
  · rw [e] at h; cases h
theorem nfc_Diff_0 {p : Prop} (h : p := by (try simp only [e1, e2, e3, e4, p1, p2, p3, q1, q2, q3, l1, t0, t1, r1, r2, r3, r4, Nat.zero_add, Nat.reduceMul, Nat.reduceAdd, b1, b2, b3, b4, b5, b6, i1, i2, i3, i4, i5, i6, Nat.reduceBEq, dfq, List.length_set, kills_map ratE, ratL_kill, spL_kill, LV.kill, kills]); exact rfl) : p := h
theorem mlc_Diff_1 {p : Prop} (h : p := by first | rfl | (simp only [e1, e2, e3, e4, p1, p2, p3, q1, q2, q3, l1, t0, t1, r1, r2, r3, r4, Nat.zero_add, Nat.reduceMul, Nat.reduceAdd, b1, b2, b3, b4, b5, b6, i1, i2, i3, i4, i5, i6, Nat.reduceBEq, dfq, List.length_set, kills_map ratE, ratL_kill, spL_kill, LV.kill, kills]; done) | (simp only [e1, e2, e3, e4, p1, p2, p3, q1, q2, q3, l1, t0, t1, r1, r2, r3, r4, Nat.zero_add, Nat.reduceMul, Nat.reduceAdd, b1, b2, b3, b4, b5, b6, i1, i2, i3, i4, i5, i6, Nat.reduceBEq, dfq, List.length_set, kills_map ratE, ratL_kill, spL_kill, LV.kill, kills]; rfl) | (simp only [e1, e2, e3, e4, p1, p2, p3, q1, q2, q3, l1, t0, t1, r1, r2, r3, r4, Nat.zero_add, Nat.reduceMul, Nat.reduceAdd, b1, b2, b3, b4, b5, b6, i1, i2, i3, i4, i5, i6, Nat.reduceBEq, dfq, List.length_set, kills_map ratE, ratL_kill, spL_kill, LV.kill, kills]; congr 2 <;> omega)) : p := h
theorem clc_Diff_2 {p : Prop} (h : p := by first | rfl | (simp only [e1, e2, e3, e4, p1, p2, p3, q1, q2, q3, l1, t0, t1, r1, r2, r3, r4, Nat.zero_add, Nat.reduceMul, Nat.reduceAdd, b1, b2, b3, b4, b5, b6, i1, i2, i3, i4, i5, i6, Nat.reduceBEq, dfq, List.length_set, kills_map ratE, ratL_kill, spL_kill, LV.kill, kills]; done) | (simp only [e1, e2, e3, e4, p1, p2, p3, q1, q2, q3, l1, t0, t1, r1, r2, r3, r4, Nat.zero_add, Nat.reduceMul, Nat.reduceAdd, b1, b2, b3, b4, b5, b6, i1, i2, i3, i4, i5, i6, Nat.reduceBEq, dfq, List.length_set, kills_map ratE, ratL_kill, spL_kill, LV.kill, kills]; rfl) | (simp only [e1, e2, e3, e4, p1, p2, p3, q1, q2, q3, l1, t0, t1, r1, r2, r3, r4, Nat.zero_add, Nat.reduceMul, Nat.reduceAdd, b1, b2, b3, b4, b5, b6, i1, i2, i3, i4, i5, i6, Nat.reduceBEq, dfq, List.length_set, kills_map ratE, ratL_kill, spL_kill, LV.kill, kills]; congr 3 <;> omega) | (simp only [e1, e2, e3, e4, p1, p2, p3, q1, q2, q3, l1, t0, t1, r1, r2, r3, r4, Nat.zero_add, Nat.reduceMul, Nat.reduceAdd, b1, b2, b3, b4, b5, b6, i1, i2, i3, i4, i5, i6, Nat.reduceBEq, dfq, List.length_set, kills_map ratE, ratL_kill, spL_kill, LV.kill, kills]; congr 2 <;> omega)) : p := h
namespace H_c_Diff
theorem om {p : Prop} (h : p := by first | (simp only [e1, e2, e3, e4, p1, p2, p3, q1, q2, q3, l1, t0, t1, r1, r2, r3, r4, Nat.zero_add, Nat.reduceMul, Nat.reduceAdd, b1, b2, b3, b4, b5, b6, i1, i2, i3, i4, i5, i6, Nat.reduceBEq, dfq, List.length_set, kills_map ratE, ratL_kill, spL_kill, LV.kill, kills]; omega) | omega) : p := h
end H_c_Diff
open H_c_Diff in
set_option maxHeartbeats 2000000 in
set_option maxRecDepth 100000 in
theorem c_Diff (p : List Rat) (hl : p.length ≤ 1000) (hpr : ∀ x ∈ p, rl x ≤ 1073741824) : CallP Try.prog 45 [.list 3 (p.map ratL)] (.list 3 ((difP p).map ratL)) := by
  refine callP_of fol Try.func45 rfl (by decide +kernel) (by decide +kernel) (Nat.le_of_ble_eq_true rfl) tm0 ?_
  refine wl_seq (wl_reg (asg ?_))
  refine st_end nfc_Diff_0 ?_
  refine then_n (wl_seq (wl_seq (wl_reg (mv ?_))))
  refine st_pure rfl ln37 ?_
  refine st_pure rfl (.bin rfl rfl rfl) ?_
  refine st_end nfc_Diff_0 ?_
  refine then_n ?_
  refine wl_cond rfl (fun h8 => ?_) (fun h8 => ?_)
  · skip
    have h8r := h8
    try simp only [hce, l1, t0, t1, dflt, val_dig] at h8
    have hE : difP p = [0] := by unfold difP; rw [if_pos (by omega)]
    refine wl_seq (wl_reg ?_)
    refine st_pure rfl (.build0 SL34 Z34a) ?_
    refine st_alloc rfl rfl (.lit1 ratE Try.underlying37 Z34 T34 rfl (by decide) (by decide)) ?_
    refine asg ?_
    refine st_end nfc_Diff_0 ?_
    refine then_n (wl_ret (then_r ?_))
    rw [hE]
    exact ret1f [10] rfl rfl (imm_refm ratE rfl rfl rfl)
  · skip
    have h8r := h8
    try simp only [hce, l1, t0, t1, dflt, val_dig] at h8
    have hdl : (difP p).length = p.length - 1 := by rw [difP_len, if_neg (by omega)]
    refine wl_skip (then_n (wl_seq (wl_reg (mv ?_))))
    refine st_pure rfl ln37 ?_
    refine st_pure rfl (.bin rfl rfl (sub1N (by omega) (by omega))) ?_
    refine st_callP rfl (.cons im0 .nil) (c_RInt ((p.length - 1 : Nat) : Int) (by omega) (by omega)) ?_
    refine st_alloc rfl rfl (.alloc Z34a) ?_
    refine st_store rfl sr34 ?_
    refine st_end nfc_Diff_0 ?_
    refine then_n (wl_seq (wl_reg (mv ?_)))
    refine st_pure rfl ln37 ?_
    refine st_pure rfl (.bin rfl rfl (sub1N (by omega) (by omega))) ?_
    refine st_alloc rfl rfl (.makeM (n := (p.length - 1)) (m := (p.length - 1)) ratE Try.underlying37 Z34 T34 B34 mlc_Diff_1 mlc_Diff_1 om om om) ?_
    refine asg ?_
    refine st_end nfc_Diff_0 ?_
    refine then_n (wl_seq (wl_seq (wl_reg (mv ?_))))
    refine st_pure rfl ln37 ?_
    refine mv ?_
    refine st_end nfc_Diff_0 ?_
    refine then_n (wl_block ?_)
    refine wl_loop (α := Nat × List Rat) (fun st L => (((((((St.mk L.slot (hp [(3, ⟨3, [ratL (((p.length - 1 : Nat) : Int) : Rat)], true⟩), (18, ⟨3, st.2.map ratL, true⟩)])).put (some 0) (.list 3 (p.map ratL))).put (some 3) (.eptr 3 3 0 0)).put (some 4) (.ref 18 3 0 (p.length - 1))).put (some 19) (.ref 18 3 0 (p.length - 1))).put (some 20) (nI64 (p.length - 1))).put (some 21) (nI64 st.1))) (fun st => st.1 ≤ p.length - 1 ∧ st.2.length = p.length - 1 ∧ st.2.take st.1 = (difP p).take st.1) (fun st => p.length - 1 - st.1) (0, List.replicate (p.length - 1) 0) (show (0) ≤ p.length - 1 ∧ (List.replicate (p.length - 1) 0).length = p.length - 1 ∧ (List.replicate (p.length - 1) 0).take (0) = (difP p).take (0) from ⟨Nat.zero_le _, by simp, rfl⟩) ⟨_, Weak.of_eq (put_id' (put_id' (put_id' (put_id' (put_id' (put_id' (mk_id' clc_Diff_2) clc_Diff_2) clc_Diff_2) clc_Diff_2) clc_Diff_2) clc_Diff_2) clc_Diff_2)⟩ ?_
    rintro ⟨i, w⟩ L1 hLC
    obtain ⟨hi, hwl, hwt⟩ : i ≤ p.length - 1 ∧ w.length = p.length - 1 ∧ w.take i = (difP p).take i := hLC
    show wpL _ _ _ (((((((St.mk L1.slot (hp [(3, ⟨3, [ratL (((p.length - 1 : Nat) : Int) : Rat)], true⟩), (18, ⟨3, w.map ratL, true⟩)])).put (some 0) (.list 3 (p.map ratL))).put (some 3) (.eptr 3 3 0 0)).put (some 4) (.ref 18 3 0 (p.length - 1))).put (some 19) (.ref 18 3 0 (p.length - 1))).put (some 20) (nI64 (p.length - 1))).put (some 21) (nI64 i))
    refine wl_seq (wl_reg ?_)
    refine st_pure rfl (.bin rfl rfl rfl) ?_
    refine st_end nfc_Diff_0 ?_
    refine then_n (wl_seq ?_)
    refine wl_cond rfl (fun h22 => ?_) (fun h22 => ?_)
    · skip
      have h22r := h22
      try simp only [hce, l1, t0, t1, dflt, val_dig] at h22
      have hi2 : i < p.length - 1 := by omega
      have hr1 := hpr _ (getD_mem (i := i) (by omega))
      have hr2 := hpr _ (getD_mem (i := i + 1) (by omega))
      have hr3 := rl_sub (p.getD (i + 1) 0) (p.getD i 0)
      have hr4 := rl_int (n := ((p.length - 1 : Nat) : Int)) (by omega)
      refine wl_skip (then_n (wl_seq (wl_block (wl_seq (wl_reg (mv (asg ?_)))))))
      refine st_end nfc_Diff_0 ?_
      refine then_n ?_
      refine wl_regD 15 (by decide +kernel) ?_
      refine mv (mv ?_)
      refine st_pure rfl ld34 ?_
      refine mv (mv ?_)
      refine st_pure rfl (.bin rfl rfl (add1N (by omega))) ?_
      refine st_pure rfl ix37 ?_
      refine st_pure rfl ld34 ?_
      refine mv (mv ?_)
      refine st_pure rfl ix37 ?_
      refine st_pure rfl ld34 ?_
      refine st_callP rfl (.cons im0 (.cons im0 .nil)) (c_RSub (p.getD (i + 1) 0) (p.getD i 0) (by omega)) ?_
      refine st_callP rfl (.cons im0 (.cons im0 .nil)) (c_RMul (((p.length - 1 : Nat) : Int) : Rat) (p.getD (i + 1) 0 - p.getD i 0) (by omega)) ?_
      refine st_pure rfl ix37 ?_
      refine st_store rfl sr34 ?_
      refine st_end nfc_Diff_0 ?_
      refine blk_n (then_n (wl_reg ?_))
      refine st_pure rfl (.bin rfl rfl (add64 om om)) ?_
      refine mv ?_
      refine st_end nfc_Diff_0 ?_
      refine then_n ?_
      exact ⟨(i + 1, w.set i ((((p.length - 1 : Nat) : Int) : Rat) * (p.getD (i + 1) 0 - p.getD i 0))), _, (show (i + 1) ≤ p.length - 1 ∧ (w.set i ((((p.length - 1 : Nat) : Int) : Rat) * (p.getD (i + 1) 0 - p.getD i 0))).length = p.length - 1 ∧ (w.set i ((((p.length - 1 : Nat) : Int) : Rat) * (p.getD (i + 1) 0 - p.getD i 0))).take (i + 1) = (difP p).take (i + 1) from ⟨by omega, by simp [hwl], set_takeR (by omega) (by omega) hwt (difP_get (by omega)).symm⟩), (show p.length - 1 - (i + 1) < p.length - 1 - i from by omega), Weak.of_eq (put_id' (put_id' (put_id' (put_id' (put_id' (put_id' (mk_id' clc_Diff_2) clc_Diff_2) clc_Diff_2) clc_Diff_2) clc_Diff_2) clc_Diff_2) clc_Diff_2)⟩
    · skip
      have h22r := h22
      try simp only [hce, l1, t0, t1, dflt, val_dig] at h22
      obtain rfl : i = p.length - 1 := by omega
      have hE : w = difP p := by
        rw [List.take_of_length_le (by omega), List.take_of_length_le (by omega)] at hwt
        exact hwt
      subst hE
      refine wl_exit ?_
      refine then_e (then_e (blk_e (then_n (wl_seq (wl_reg (mv (asg ?_)))))))
      refine st_end nfc_Diff_0 ?_
      refine then_n (wl_ret ?_)
      exact ret1f [18] rfl rfl (imm_refm ratE rfl rfl hdl.symm)
theorem nfc_Top_0 {p : Prop} (h : p := by (try simp only [e1, e2, e3, e4, p1, p2, p3, q1, q2, q3, l1, t0, t1, r1, r2, r3, r4, Nat.zero_add, Nat.reduceMul, Nat.reduceAdd, b1, b2, b3, b4, b5, b6, i1, i2, i3, i4, i5, i6, Nat.reduceBEq, frz_nil, dfq, chR_len, List.append_nil, List.length_append, ek, eq0, emg1, emg2, ems, eme, ei1, eti, take_map_len, map_snoc, len_snoc, List.length_cons, List.length_nil, kills_map ratE, ratL_kill, LV.kill, kills]); exact rfl) : p := h
theorem clc_Top_1 {p : Prop} (h : p := by first | rfl | (simp only [e1, e2, e3, e4, p1, p2, p3, q1, q2, q3, l1, t0, t1, r1, r2, r3, r4, Nat.zero_add, Nat.reduceMul, Nat.reduceAdd, b1, b2, b3, b4, b5, b6, i1, i2, i3, i4, i5, i6, Nat.reduceBEq, frz_nil, dfq, chR_len, List.append_nil, List.length_append, ek, eq0, emg1, emg2, ems, eme, ei1, eti, take_map_len, map_snoc, len_snoc, List.length_cons, List.length_nil, kills_map ratE, ratL_kill, LV.kill, kills]; done) | (simp only [e1, e2, e3, e4, p1, p2, p3, q1, q2, q3, l1, t0, t1, r1, r2, r3, r4, Nat.zero_add, Nat.reduceMul, Nat.reduceAdd, b1, b2, b3, b4, b5, b6, i1, i2, i3, i4, i5, i6, Nat.reduceBEq, frz_nil, dfq, chR_len, List.append_nil, List.length_append, ek, eq0, emg1, emg2, ems, eme, ei1, eti, take_map_len, map_snoc, len_snoc, List.length_cons, List.length_nil, kills_map ratE, ratL_kill, LV.kill, kills]; rfl) | (simp only [e1, e2, e3, e4, p1, p2, p3, q1, q2, q3, l1, t0, t1, r1, r2, r3, r4, Nat.zero_add, Nat.reduceMul, Nat.reduceAdd, b1, b2, b3, b4, b5, b6, i1, i2, i3, i4, i5, i6, Nat.reduceBEq, frz_nil, dfq, chR_len, List.append_nil, List.length_append, ek, eq0, emg1, emg2, ems, eme, ei1, eti, take_map_len, map_snoc, len_snoc, List.length_cons, List.length_nil, kills_map ratE, ratL_kill, LV.kill, kills]; congr 3 <;> omega) | (simp only [e1, e2, e3, e4, p1, p2, p3, q1, q2, q3, l1, t0, t1, r1, r2, r3, r4, Nat.zero_add, Nat.reduceMul, Nat.reduceAdd, b1, b2, b3, b4, b5, b6, i1, i2, i3, i4, i5, i6, Nat.reduceBEq, frz_nil, dfq, chR_len, List.append_nil, List.length_append, ek, eq0, emg1, emg2, ems, eme, ei1, eti, take_map_len, map_snoc, len_snoc, List.length_cons, List.length_nil, kills_map ratE, ratL_kill, LV.kill, kills]; congr 2 <;> omega)) : p := h
namespace H_c_Top
theorem om {p : Prop} (h : p := by first | (simp only [e1, e2, e3, e4, p1, p2, p3, q1, q2, q3, l1, t0, t1, r1, r2, r3, r4, Nat.zero_add, Nat.reduceMul, Nat.reduceAdd, b1, b2, b3, b4, b5, b6, i1, i2, i3, i4, i5, i6, Nat.reduceBEq, frz_nil, dfq, chR_len, List.append_nil, List.length_append, ek, eq0, emg1, emg2, ems, eme, ei1, eti, take_map_len, map_snoc, len_snoc, List.length_cons, List.length_nil, kills_map ratE, ratL_kill, LV.kill, kills]; omega) | omega) : p := h
end H_c_Top
open H_c_Top in
set_option maxHeartbeats 4000000 in
set_option maxRecDepth 100000 in
theorem c_Top (p : List Rat) (hp0 : 0 < p.length) (hl : p.length ≤ 25) (hs : ∀ x ∈ p, (rl x + 1) * 2 ^ p.length ≤ 1073741824) : CallP Try.prog 46 [.list 3 (p.map ratL)] (.list 3 ((topP p).map ratL)) := by
  have hpr : ∀ x ∈ p, rl x ≤ 274877906944 := fun x hx => by have := sz_rl (hs x hx); omega
  have htl0 := topP_len p
  refine callP_of fol Try.func46 rfl (by decide +kernel) (by decide +kernel) (Nat.le_of_ble_eq_true rfl) tm0 ?_
  have ek : True := trivial
  have eq0 : True := trivial
  have emg1 : True := trivial
  have emg2 : True := trivial
  have ems : True := trivial
  have eme : True := trivial
  have ei1 : True := trivial
  have eti : True := trivial
  refine wl_seq (wl_reg (asg ?_))
  refine st_end nfc_Top_0 ?_
  refine then_n (wl_seq (wl_reg (mv ?_)))
  refine st_call1 [] rfl rfl (.cons (.pure (pure_lst ratE _ _)) .nil) (c_copiedO p (by omega) hpr) (pures_map ratE _) rfl ?_
  refine asg ?_
  refine st_end nfc_Top_0 ?_
  refine then_n (wl_seq (wl_reg (mv ?_)))
  refine st_pure rfl ln37 ?_
  refine st_alloc rfl rfl (.makeM (n := 0) (m := p.length) ratE Try.underlying25 Z34 T34 B34 rfl rfl (by omega) (by omega) (by omega)) ?_
  refine asg ?_
  refine st_end nfc_Top_0 ?_
  refine then_n (wl_seq (wl_seq (wl_reg (mv ?_))))
  refine st_pure rfl ln37 ?_
  refine st_pure rfl (.bin rfl rfl (sub1N (by omega) (by omega))) ?_
  refine st_pure rfl (.max2 rfl rfl) ?_
  refine st_callP rfl (.cons im0 .nil) (c_choose (p.length - 1) (by omega)) ?_
  refine st_pure rfl ln25 ?_
  refine mv ?_
  refine st_end nfc_Top_0 ?_
  refine then_n (wl_block ?_)
  refine wl_weak (Weak.mv (t := 4) (b := 12) 35 (by decide) (by decide) (by decide) rfl rfl rfl) ?_
  refine wl_loop (α := Nat × List Rat × List Rat) (fun st L => (((((((St.mk L.slot (hp [(1000145, ⟨3, (dfk st.1 p ++ st.2.1).map ratL, true⟩), (35, ⟨3, st.2.2.map ratL, true⟩)])).put (some 0) (.list 3 (p.map ratL))).put (some 17) (.list 3 ((chR (p.length - 1)).map ratL))).put (some 18) (nI64 p.length)).put (some 19) (nI64 st.1)).put (some 3) (.ref 1000145 3 0 (p.length - st.1))).put (some 4) (.ref 35 3 0 st.2.2.length))) (fun st => st.1 ≤ p.length ∧ st.2.1.length = st.1 ∧ st.2.2 = (topP p).take st.1 ∧ st.2.2.length = st.1 ∧ ∀ x ∈ dfk st.1 p, (rl x + 1) * 2 ^ (p.length - st.1) ≤ 1073741824) (fun st => p.length - st.1) (0, [], []) (show (0) ≤ p.length ∧ ([]).length = (0) ∧ ([]) = (topP p).take (0) ∧ ([]).length = (0) ∧ ∀ x ∈ dfk (0) p, (rl x + 1) * 2 ^ (p.length - (0)) ≤ 1073741824 from ⟨Nat.zero_le _, rfl, rfl, rfl, hs⟩) ⟨_, Weak.of_eq (put_id' (put_id' (put_id' (put_id' (put_id' (put_id' (mk_id' clc_Top_1) clc_Top_1) clc_Top_1) clc_Top_1) clc_Top_1) clc_Top_1) clc_Top_1)⟩ ?_
  rintro ⟨k, tl, lo⟩ L1 hLC
  obtain ⟨hk, htl, hlo, htk, hsz⟩ : k ≤ p.length ∧ tl.length = k ∧ lo = (topP p).take k ∧ lo.length = k ∧ ∀ x ∈ dfk k p, (rl x + 1) * 2 ^ (p.length - k) ≤ 1073741824 := hLC
  show wpL _ _ _ (((((((St.mk L1.slot (hp [(1000145, ⟨3, (dfk k p ++ tl).map ratL, true⟩), (35, ⟨3, lo.map ratL, true⟩)])).put (some 0) (.list 3 (p.map ratL))).put (some 17) (.list 3 ((chR (p.length - 1)).map ratL))).put (some 18) (nI64 p.length)).put (some 19) (nI64 k)).put (some 3) (.ref 1000145 3 0 (p.length - k))).put (some 4) (.ref 35 3 0 lo.length))
  refine wl_seq (wl_reg ?_)
  refine st_pure rfl (.bin rfl rfl rfl) ?_
  refine st_end nfc_Top_0 ?_
  refine then_n (wl_seq ?_)
  refine wl_cond rfl (fun h20 => ?_) (fun h20 => ?_)
  · skip
    have h20r := h20
    try simp only [hce, l1, t0, t1, dflt, val_dig] at h20
    have hkn : k < p.length := by omega
    have hdl := dfk_len p k
    obtain ⟨j, hj⟩ : ∃ j, p.length - k = j + 1 := ⟨p.length - k - 1, by omega⟩
    rw [hj] at hsz
    have ek : (((p.length - k : Nat) : Int) - 1) = (j : Int) := by omega
    have hds := dfl_len (dfk k p)
    have eq0 : (dfk k p ++ tl).getD 0 0 = (dfk k p).getD 0 0 := getD_app1 _ _ _ (by omega)
    have hq0 := sz_rl (hsz _ (getD_mem (i := 0) (by omega)))
    have hc0 := chR_rl (n := p.length - 1) (by omega) _ (getD_mem (i := k) (by rw [chR_len]; omega))
    have ets := top_step (tl := tl) hkn
    refine wl_skip (then_n (wl_seq (wl_block (wl_seq (wl_reg (mv ?_))))))
    refine st_pure rfl ix25 ?_
    refine st_pure rfl ld34 ?_
    refine st_alloc rfl rfl (.alloc Z34a) ?_
    refine asg ?_
    refine st_store rfl sr34 ?_
    refine st_end nfc_Top_0 ?_
    refine then_n (wl_seq (wl_seq (wl_reg (mv (mv ?_)))))
    refine st_pure rfl ln37 ?_
    refine st_pure rfl (.bin rfl rfl rfl) ?_
    refine st_end nfc_Top_0 ?_
    refine then_n ?_
    refine wl_cond rfl (fun h27 => ?_) (fun h27 => ?_)
    · skip
      have h27r := h27
      try simp only [hce, l1, t0, t1, dflt, val_dig] at h27
      omega
    · skip
      have h27r := h27
      try simp only [hce, l1, t0, t1, dflt, val_dig] at h27
      refine wl_skip (then_n (wl_seq ?_))
      refine wl_regD 7 (by decide +kernel) ?_
      refine mv ?_
      refine st_pure rfl ld34 ?_
      refine mv ?_
      refine st_pure rfl ix37 ?_
      refine st_pure rfl ld34 ?_
      simp only [tz0, dfq, Nat.zero_add, eq0]
      refine st_callP rfl (.cons im0 (.cons im0 .nil)) (c_RMul _ _ (by omega)) ?_
      refine st_alloc rfl rfl (.lit1 ratE Try.underlying25 Z34 T34 rfl (by decide) (by decide)) ?_
      refine st_store rfl (.app (news := [ratL ((chR (p.length - 1)).getD k 0 * (dfk k p).getD 0 0)]) rfl rfl rfl rfl rfl (by simp) (.inl rfl) (by decide) Try.underlying25 Try.underlying25 Z34a T34 rfl B34 (.inl ⟨34, 0, _, rfl, by decide, rfl, rfl, by simp, rfl, by simp [pures, ratE.pure]⟩) (by simp; omega) (by simp; omega) (by decide)) ?_
      refine asg ?_
      refine st_end nfc_Top_0 ?_
      refine then_n (wl_seq (wl_seq ?_))
      refine wl_regW ((Weak.kill _ 34).trans (Weak.kill _ 6)) ?_
      refine mv ?_
      refine st_pure rfl ln37 ?_
      refine st_pure rfl (.bin rfl rfl (sub64 om om)) ?_
      refine mv ?_
      refine st_end nfc_Top_0 ?_
      refine then_n (wl_block ?_)
      refine wl_loop (α := Nat) (fun st L => (((((((((St.mk L.slot (hp [(1000145, ⟨3, ((dfl (dfk k p)).take st ++ ((dfk k p).drop st ++ tl)).map ratL, true⟩), (35, ⟨3, (lo ++ [((chR (p.length - 1)).getD k 0 * (dfk k p).getD 0 0)]).map ratL, true⟩)])).put (some 0) (.list 3 (p.map ratL))).put (some 17) (.list 3 ((chR (p.length - 1)).map ratL))).put (some 18) (nI64 p.length)).put (some 19) (nI64 k)).put (some 3) (.ref 1000145 3 0 (p.length - k))).put (some 4) (.ref 35 3 0 (lo.length + 1))).put (some 38) (nI64 j)).put (some 39) (nI64 st))) (fun st => st ≤ j) (fun st => j - st) 0 (show (0) ≤ j from Nat.zero_le _) ⟨_, Weak.of_eq (put_id' (put_id' (put_id' (put_id' (put_id' (put_id' (put_id' (put_id' (mk_id' clc_Top_1) clc_Top_1) clc_Top_1) clc_Top_1) clc_Top_1) clc_Top_1) clc_Top_1) clc_Top_1) clc_Top_1)⟩ ?_
      rintro i L2 hLC
      have hi : i ≤ j := hLC
      clear hLC
      show wpL _ _ _ (((((((((St.mk L2.slot (hp [(1000145, ⟨3, ((dfl (dfk k p)).take i ++ ((dfk k p).drop i ++ tl)).map ratL, true⟩), (35, ⟨3, (lo ++ [((chR (p.length - 1)).getD k 0 * (dfk k p).getD 0 0)]).map ratL, true⟩)])).put (some 0) (.list 3 (p.map ratL))).put (some 17) (.list 3 ((chR (p.length - 1)).map ratL))).put (some 18) (nI64 p.length)).put (some 19) (nI64 k)).put (some 3) (.ref 1000145 3 0 (p.length - k))).put (some 4) (.ref 35 3 0 (lo.length + 1))).put (some 38) (nI64 j)).put (some 39) (nI64 i))
      refine wl_seq (wl_reg ?_)
      refine st_pure rfl (.bin rfl rfl rfl) ?_
      refine st_end nfc_Top_0 ?_
      refine then_n (wl_seq ?_)
      refine wl_cond rfl (fun h40 => ?_) (fun h40 => ?_)
      · skip
        have h40r := h40
        try simp only [hce, l1, t0, t1, dflt, val_dig] at h40
        have hij : i < j := by omega
        have ei1 : ((i : Int) + 1).toNat = i + 1 := by omega
        obtain ⟨emg1, emg2⟩ := row_get (s := dfl (dfk k p)) (q := dfk k p) (tl := tl) (i := i) (by omega) (by omega)
        have ems := row_set (s := dfl (dfk k p)) (q := dfk k p) (tl := tl) (i := i) (by omega) (by omega) (dfl_get (dfk k p) i (by omega)).symm
        have hr1 := sz_rl (hsz _ (getD_mem (i := i) (by omega)))
        have hr2 := sz_rl (hsz _ (getD_mem (i := i + 1) (by omega)))
        have hml := row_len (s := dfl (dfk k p)) (q := dfk k p) (tl := tl) (i := i) (by omega) (by omega)
        refine wl_skip (then_n (wl_seq (wl_block (wl_seq (wl_reg (mv (asg ?_)))))))
        refine st_end nfc_Top_0 ?_
        refine then_n ?_
        refine wl_regD 13 (by decide +kernel) ?_
        refine mv (mv (mv (mv ?_)))
        refine st_pure rfl (.bin rfl rfl (add64 om om)) ?_
        refine st_pure rfl ix37 ?_
        refine st_pure rfl ld34 ?_
        simp only [ei1, dfq, Nat.zero_add, emg2]
        refine mv (mv ?_)
        refine st_pure rfl ix37 ?_
        refine st_pure rfl ld34 ?_
        simp only [t1, dfq, Nat.zero_add, emg1]
        refine st_callP rfl (.cons im0 (.cons im0 .nil)) (c_RSub ((dfk k p).getD (i + 1) 0) ((dfk k p).getD i 0) (by omega)) ?_
        refine st_pure rfl ix37 ?_
        refine st_store rfl sr34 ?_
        refine st_end nfc_Top_0 ?_
        refine blk_n (then_n (wl_reg ?_))
        refine st_pure rfl (.bin rfl rfl (add64 om om)) ?_
        refine mv ?_
        refine st_end nfc_Top_0 ?_
        refine then_n ?_
        exact ⟨i + 1, _, (show (i + 1) ≤ j from by omega), (show j - (i + 1) < j - i from by omega), Weak.of_eq (put_id' (put_id' (put_id' (put_id' (put_id' (put_id' (put_id' (put_id' (mk_id' clc_Top_1) clc_Top_1) clc_Top_1) clc_Top_1) clc_Top_1) clc_Top_1) clc_Top_1) clc_Top_1) clc_Top_1)⟩
      · skip
        have h40r := h40
        try simp only [hce, l1, t0, t1, dflt, val_dig] at h40
        obtain rfl : j = i := by omega
        have eme := row_end (s := dfl (dfk k p)) (q := dfk k p) (tl := tl) (k := j) (by omega) (by omega)
        refine wl_exit ?_
        refine then_e (then_e (blk_e (then_n (wl_reg (mv (mv ?_))))))
        refine st_pure rfl ln37 ?_
        refine st_pure rfl (.bin rfl rfl (sub1N (by omega) (by omega))) ?_
        refine st_pure rfl (.sliceRh rfl Try.underlying37 T34 rfl om om) ?_
        refine asg ?_
        refine st_end nfc_Top_0 ?_
        refine blk_n (then_n (wl_reg ?_))
        refine st_pure rfl (.bin rfl rfl (add64 om om)) ?_
        refine mv ?_
        refine st_end nfc_Top_0 ?_
        refine then_n ?_
        exact ⟨(k + 1, (dfk k p).getD j 0 :: tl, lo ++ [((chR (p.length - 1)).getD k 0 * (dfk k p).getD 0 0)]), _, (show (k + 1) ≤ p.length ∧ ((dfk k p).getD j 0 :: tl).length = (k + 1) ∧ (lo ++ [((chR (p.length - 1)).getD k 0 * (dfk k p).getD 0 0)]) = (topP p).take (k + 1) ∧ (lo ++ [((chR (p.length - 1)).getD k 0 * (dfk k p).getD 0 0)]).length = (k + 1) ∧ ∀ x ∈ dfk (k + 1) p, (rl x + 1) * 2 ^ (p.length - (k + 1)) ≤ 1073741824 from ⟨by omega, by simp [htl], by rw [hlo, ets], by simp [htk], by rw [show p.length - (k + 1) = j by omega]; exact dfl_sz hsz⟩), (show p.length - (k + 1) < p.length - k from by omega), Weak.of_eq (put_id' (put_id' (put_id' (put_id' (put_id' (put_id' (mk_id' clc_Top_1) clc_Top_1) clc_Top_1) clc_Top_1) clc_Top_1) clc_Top_1) clc_Top_1)⟩
  · skip
    have h20r := h20
    try simp only [hce, l1, t0, t1, dflt, val_dig] at h20
    obtain rfl : k = p.length := by omega
    rw [List.take_of_length_le (by omega)] at hlo
    refine wl_exit ?_
    refine then_e (then_e (blk_e (then_n (wl_seq (wl_reg (mv (asg ?_)))))))
    refine st_end nfc_Top_0 ?_
    refine then_n (wl_ret ?_)
    rw [← hlo]
    exact ret1f [35] rfl rfl (imm_refm ratE rfl rfl rfl)
theorem nfc_Reverse_0 {p : Prop} (h : p := by (try simp only [e1, e2, e3, e4, p1, p2, p3, q1, q2, q3, l1, t0, t1, r1, r2, r3, r4, Nat.zero_add, Nat.reduceMul, Nat.reduceAdd, b1, b2, b3, b4, b5, b6, i1, i2, i3, i4, i5, i6, Nat.reduceBEq, dfq, ejm, List.length_set]); exact rfl) : p := h
theorem clc_Reverse_1 {p : Prop} (h : p := by first | rfl | (simp only [e1, e2, e3, e4, p1, p2, p3, q1, q2, q3, l1, t0, t1, r1, r2, r3, r4, Nat.zero_add, Nat.reduceMul, Nat.reduceAdd, b1, b2, b3, b4, b5, b6, i1, i2, i3, i4, i5, i6, Nat.reduceBEq, dfq, ejm, List.length_set]; done) | (simp only [e1, e2, e3, e4, p1, p2, p3, q1, q2, q3, l1, t0, t1, r1, r2, r3, r4, Nat.zero_add, Nat.reduceMul, Nat.reduceAdd, b1, b2, b3, b4, b5, b6, i1, i2, i3, i4, i5, i6, Nat.reduceBEq, dfq, ejm, List.length_set]; rfl) | (simp only [e1, e2, e3, e4, p1, p2, p3, q1, q2, q3, l1, t0, t1, r1, r2, r3, r4, Nat.zero_add, Nat.reduceMul, Nat.reduceAdd, b1, b2, b3, b4, b5, b6, i1, i2, i3, i4, i5, i6, Nat.reduceBEq, dfq, ejm, List.length_set]; congr 3 <;> omega) | (simp only [e1, e2, e3, e4, p1, p2, p3, q1, q2, q3, l1, t0, t1, r1, r2, r3, r4, Nat.zero_add, Nat.reduceMul, Nat.reduceAdd, b1, b2, b3, b4, b5, b6, i1, i2, i3, i4, i5, i6, Nat.reduceBEq, dfq, ejm, List.length_set]; congr 2 <;> omega)) : p := h
namespace H_c_Reverse
theorem om {p : Prop} (h : p := by first | (simp only [e1, e2, e3, e4, p1, p2, p3, q1, q2, q3, l1, t0, t1, r1, r2, r3, r4, Nat.zero_add, Nat.reduceMul, Nat.reduceAdd, b1, b2, b3, b4, b5, b6, i1, i2, i3, i4, i5, i6, Nat.reduceBEq, dfq, ejm, List.length_set]; omega) | omega) : p := h
end H_c_Reverse
open H_c_Reverse in
set_option maxHeartbeats 1000000 in
set_option maxRecDepth 100000 in
theorem c_Reverse (p : List Rat) (n : Nat) (hpl : p.length = n) (hn0 : 0 < n) (hn : n ≤ 1048576) : CallOKM Try.prog 67 ⟨3, p.map ratL, true⟩ [.ref 0 3 0 n] (.tup []) ⟨3, p.reverse.map ratL, true⟩ := by
  refine callM_of fol Try.func67 rfl (by decide +kernel) (by decide +kernel) (Nat.le_of_ble_eq_true rfl) rfl ?_
  have ejm : True := trivial
  refine wl_seq (wl_reg (mv ?_))
  refine st_pure rfl ln37 ?_
  refine st_pure rfl (.bin rfl rfl (sub1N (by omega) (by omega))) ?_
  refine asg (asg ?_)
  refine st_end nfc_Reverse_0 ?_
  refine then_n (wl_block ?_)
  refine wl_loop (α := Nat × Nat × List Rat) (fun st L => ((((St.mk L.slot (hp [(0, ⟨3, st.2.2.map ratL, true⟩)])).put (some 0) (.ref 0 3 0 n)).put (some 2) (nI64 st.1)).put (some 3) (nI64 st.2.1))) (fun st => st.2.1 + st.1 + 1 = n ∧ st.2.2.length = n ∧ ∀ x, x < n → st.2.2.getD x 0 = if x < st.1 ∨ n ≤ x + st.1 then p.getD (n - 1 - x) 0 else p.getD x 0) (fun st => st.2.1) (0, (n - 1), p) (show ((n - 1)) + (0) + 1 = n ∧ (p).length = n ∧ ∀ x, x < n → (p).getD x 0 = if x < (0) ∨ n ≤ x + (0) then p.getD (n - 1 - x) 0 else p.getD x 0 from ⟨by omega, hpl, fun x hx => by rw [if_neg (by omega)]⟩) ⟨_, Weak.of_eq (put_id' (put_id' (put_id' (mk_id' clc_Reverse_1) clc_Reverse_1) clc_Reverse_1) clc_Reverse_1)⟩ ?_
  rintro ⟨i, j, o⟩ L1 hLC
  obtain ⟨hij, hol, hg⟩ : j + i + 1 = n ∧ o.length = n ∧ ∀ x, x < n → o.getD x 0 = if x < i ∨ n ≤ x + i then p.getD (n - 1 - x) 0 else p.getD x 0 := hLC
  show wpL _ _ _ ((((St.mk L1.slot (hp [(0, ⟨3, o.map ratL, true⟩)])).put (some 0) (.ref 0 3 0 n)).put (some 2) (nI64 i)).put (some 3) (nI64 j))
  refine wl_seq (wl_seq (wl_reg (mv (mv ?_))))
  refine st_pure rfl (.bin rfl rfl rfl) ?_
  refine st_end nfc_Reverse_0 ?_
  refine then_n ?_
  refine wl_cond rfl (fun h9 => ?_) (fun h9 => ?_)
  · skip
    have h9r := h9
    try simp only [hce, l1, t0, t1, dflt, val_dig] at h9
    have ejm : ((j : Int) - 1) = ((j - 1 : Nat) : Int) := by omega
    refine wl_skip (then_n (wl_seq (wl_block ?_)))
    refine wl_regF 13 [2, 3] (by decide +kernel) ?_
    refine mv (mv (mv (mv (mv (mv ?_)))))
    refine st_pure rfl ix37 ?_
    refine st_pure rfl ld34 ?_
    refine mv (mv ?_)
    refine st_pure rfl ix37 ?_
    refine st_pure rfl ld34 ?_
    refine st_pure rfl ix37 ?_
    refine st_store rfl sr34 ?_
    refine st_pure rfl ix37 ?_
    refine st_store rfl sr34 ?_
    refine st_end nfc_Reverse_0 ?_
    refine blk_n (then_n (wl_reg (mv ?_)))
    refine st_pure rfl (.bin rfl rfl (add64 om om)) ?_
    refine mv ?_
    refine st_pure rfl (.bin rfl rfl (sub64 om om)) ?_
    refine asg (asg ?_)
    refine st_end nfc_Reverse_0 ?_
    refine then_n ?_
    exact ⟨(i + 1, j - 1, (o.set i (o.getD j 0)).set j (o.getD i 0)), _, (show (j - 1) + (i + 1) + 1 = n ∧ ((o.set i (o.getD j 0)).set j (o.getD i 0)).length = n ∧ ∀ x, x < n → ((o.set i (o.getD j 0)).set j (o.getD i 0)).getD x 0 = if x < (i + 1) ∨ n ≤ x + (i + 1) then p.getD (n - 1 - x) 0 else p.getD x 0 from ⟨by omega, by simp [hol], rev_step hpl hol (by omega) hij hg⟩), (show (j - 1) < j from by omega), Weak.of_eq (put_id' (put_id' (put_id' (mk_id' clc_Reverse_1) clc_Reverse_1) clc_Reverse_1) clc_Reverse_1)⟩
  · skip
    have h9r := h9
    try simp only [hce, l1, t0, t1, dflt, val_dig] at h9
    refine wl_exit ?_
    refine then_e (then_e (blk_e ?_))
    have hE := rev_end hpl hol (by omega) hg
    rw [← hE]
    exact retM0 rfl rfl (pures_map ratE _)
theorem nfc_Part_0 {p : Prop} (h : p := by (try simp only [e1, e2, e3, e4, p1, p2, p3, q1, q2, q3, l1, t0, t1, r1, r2, r3, r4, Nat.zero_add, Nat.reduceMul, Nat.reduceAdd, b1, b2, b3, b4, b5, b6, i1, i2, i3, i4, i5, i6, Nat.reduceBEq, dfq, r1r, kills_map ratE, ratL_kill, spL_kill, LV.kill, kills]); exact rfl) : p := h
namespace H_c_Part
theorem om {p : Prop} (h : p := by first | (simp only [e1, e2, e3, e4, p1, p2, p3, q1, q2, q3, l1, t0, t1, r1, r2, r3, r4, Nat.zero_add, Nat.reduceMul, Nat.reduceAdd, b1, b2, b3, b4, b5, b6, i1, i2, i3, i4, i5, i6, Nat.reduceBEq, dfq, r1r, kills_map ratE, ratL_kill, spL_kill, LV.kill, kills]; omega) | omega) : p := h
end H_c_Part
open H_c_Part in
set_option maxHeartbeats 2000000 in
set_option maxRecDepth 100000 in
theorem c_Part (p : List Rat) (a b : Rat) (hp0 : 0 < p.length) (hl : p.length ≤ 1048576) (hpr : ∀ x ∈ p, rl x ≤ 274877906944) (hab : rl a + rl b ≤ 1073741824) (g1 : 1 - a ≠ 0 → HS p a ∧ HS (hiP p a) ((b - a) / (1 - a))) (g2 : 1 - a = 0 → b ≠ 0 → HS p b ∧ HS (loP p b) (1 / b)) : CallP Try.prog 25 [.list 3 (p.map ratL), ratL a, ratL b] (.list 3 ((partB p a b).map ratL)) := by
  have hr1 := rl_sub 1 a
  have hr2 := rl_sub b a
  have hrr : rl 1 = 1 := rfl
  refine callP_of fol Try.func25 rfl (by decide +kernel) (by decide +kernel) (Nat.le_of_ble_eq_true rfl) tm0 ?_
  refine wl_seq (wl_reg ?_)
  refine st_alloc rfl rfl (.boxE ratE rfl) ?_
  refine st_alloc rfl rfl (.boxE ratE rfl) ?_
  refine asg ?_
  refine st_end nfc_Part_0 ?_
  refine then_n (wl_seq (wl_reg ?_))
  refine st_callP rfl (.cons im0 .nil) (c_RInt 1 (by decide) (by decide)) ?_
  refine st_alloc rfl rfl (.alloc Z34a) ?_
  refine st_store rfl sr34 ?_
  refine st_end nfc_Part_0 ?_
  refine then_n (wl_seq (wl_seq (wl_reg ?_)))
  refine st_pure rfl ld34 ?_
  refine st_pure rfl ld34 ?_
  refine st_callP rfl (.cons im0 (.cons im0 .nil)) (c_RSub 1 a (by omega)) ?_
  refine st_alloc rfl rfl (.alloc Z34a) ?_
  refine st_store rfl sr34 ?_
  refine st_end nfc_Part_0 ?_
  refine then_n (wl_seq (wl_reg ?_))
  refine st_pure rfl ld34 ?_
  refine st_callP rfl (.cons im0 .nil) (c_RSign (1 - a) (by omega)) ?_
  refine st_pure rfl (.bin rfl rfl rfl) ?_
  refine st_end nfc_Part_0 ?_
  refine then_n ?_
  refine wl_cond rfl (fun h24 => ?_) (fun h24 => ?_)
  · skip
    have h24r := h24
    try simp only [hce, l1, t0, t1, dflt, val_dig] at h24
    have hne : 1 - a ≠ 0 := sgnR_ne h24
    obtain ⟨gA, gB⟩ := g1 hne
    have hE : partB p a b = loP (hiP p a) ((b - a) / (1 - a)) := by rw [partB, if_pos hne]
    refine wl_seq (wl_reg (mv ?_))
    refine st_pure rfl ld34 ?_
    refine st_callP rfl (.cons im0 (.cons im0 .nil)) (c_halvesH p a gA) ?_
    refine mv ?_
    refine st_pure rfl (.extract rfl rfl nt0) ?_
    refine st_pure rfl (.extract rfl rfl nt0) ?_
    refine asg (asg ?_)
    refine st_end nfc_Part_0 ?_
    refine then_n (wl_seq ?_)
    refine wl_regD 12 (by decide +kernel) ?_
    refine mv ?_
    refine st_pure rfl ld34 ?_
    refine st_pure rfl ld34 ?_
    refine st_callP rfl (.cons im0 (.cons im0 .nil)) (c_RSub b a (by omega)) ?_
    refine st_pure rfl ld34 ?_
    refine st_callP rfl (.cons im0 (.cons im0 .nil)) (c_quo (b - a) (1 - a) (by omega)) ?_
    refine st_callP rfl (.cons im0 (.cons im0 .nil)) (c_halvesH (hiP p a) ((b - a) / (1 - a)) gB) ?_
    refine mv ?_
    refine st_pure rfl (.extract rfl rfl nt0) ?_
    refine st_pure rfl (.extract rfl rfl nt0) ?_
    refine asg (asg ?_)
    refine st_end nfc_Part_0 ?_
    refine then_n (wl_seq (wl_reg (mv (asg ?_))))
    refine st_end nfc_Part_0 ?_
    refine then_n (wl_ret (then_r ?_))
    rw [hE]
    exact ret1 rfl (by first | exact .pure rfl | exact .pure (limL_pure _) | exact .pure (magL_pure _) | exact .pure (ratE.pure _) | exact .pure (pure_lst u32E _ _) | exact .pure (pure_lst ratE _ _))
  · skip
    have h24r := h24
    try simp only [hce, l1, t0, t1, dflt, val_dig] at h24
    have hne : 1 - a = 0 := sgnR_z (by omega)
    refine wl_skip (then_n (wl_seq (wl_seq (wl_reg ?_))))
    refine st_pure rfl ld34 ?_
    refine st_callP rfl (.cons im0 .nil) (c_RSign b (by omega)) ?_
    refine st_pure rfl (.bin rfl rfl rfl) ?_
    refine st_end nfc_Part_0 ?_
    refine then_n ?_
    refine wl_cond rfl (fun h44 => ?_) (fun h44 => ?_)
    · skip
      have h44r := h44
      try simp only [hce, l1, t0, t1, dflt, val_dig] at h44
      have hnb : b ≠ 0 := sgnR_ne h44
      obtain ⟨gA, gB⟩ := g2 hne hnb
      have hE : partB p a b = hiP (loP p b) (1 / b) := by rw [partB, if_neg (by rw [hne]; simp), if_pos hnb]
      refine wl_seq (wl_reg (mv ?_))
      refine st_pure rfl ld34 ?_
      refine st_callP rfl (.cons im0 (.cons im0 .nil)) (c_halvesH p b gA) ?_
      refine mv ?_
      refine st_pure rfl (.extract rfl rfl nt0) ?_
      refine st_pure rfl (.extract rfl rfl nt0) ?_
      refine asg (asg ?_)
      refine st_end nfc_Part_0 ?_
      refine then_n (wl_seq (wl_reg (mv ?_)))
      refine st_pure rfl ld34 ?_
      refine st_pure rfl ld34 ?_
      refine st_callP rfl (.cons im0 (.cons im0 .nil)) (c_quo 1 b (by omega)) ?_
      refine st_callP rfl (.cons im0 (.cons im0 .nil)) (c_halvesH (loP p b) (1 / b) gB) ?_
      refine mv ?_
      refine st_pure rfl (.extract rfl rfl nt0) ?_
      refine st_pure rfl (.extract rfl rfl nt0) ?_
      refine asg (asg ?_)
      refine st_end nfc_Part_0 ?_
      refine then_n (wl_seq (wl_reg (mv (asg ?_))))
      refine st_end nfc_Part_0 ?_
      refine then_n (wl_ret (then_r ?_))
      rw [hE]
      exact ret1 rfl (by first | exact .pure rfl | exact .pure (limL_pure _) | exact .pure (magL_pure _) | exact .pure (ratE.pure _) | exact .pure (pure_lst u32E _ _) | exact .pure (pure_lst ratE _ _))
    · skip
      have h44r := h44
      try simp only [hce, l1, t0, t1, dflt, val_dig] at h44
      have hnb : b = 0 := sgnR_z (by omega)
      have hE : partB p a b = p.reverse := by rw [partB, if_neg (by rw [hne]; simp), if_neg (by rw [hnb]; simp)]
      refine wl_skip (then_n (wl_seq (wl_reg (mv ?_))))
      refine st_call1 [] rfl rfl (.cons (.pure (pure_lst ratE _ _)) .nil) (c_copiedO p hl hpr) (pures_map ratE _) rfl ?_
      refine asg ?_
      refine st_end nfc_Part_0 ?_
      refine then_n (wl_seq (wl_reg (mv ?_)))
      refine st_callM 1000977 rfl rfl rfl (pures_map ratE _) (.cons .ref .nil) (.ref hp0) (c_Reverse p p.length rfl hp0 hl) rfl (pures_map ratE _) ?_
      refine st_end nfc_Part_0 ?_
      refine then_n (wl_seq (wl_reg (mv (asg ?_))))
      refine st_end nfc_Part_0 ?_
      refine then_n (wl_ret ?_)
      rw [hE]
      exact ret1f [1000977] rfl rfl (imm_refm ratE rfl rfl (by simp))
end Go.Proofs.Ythhdcfhaldcheaa
