/- Derivatives. -/
import Derived.Test.YthhdcfhaldcheaaC2
set_option linter.unusedVariables false
set_option linter.unusedSimpArgs false
namespace Go.Proofs.Ythhdcfhaldcheaa
open Go.Lg
/-! ### derivatives -/
def difP (p : List Rat) : List Rat := if p.length < 2 then [0] else (List.range (p.length - 1)).map fun i => (((p.length - 1 : Nat) : Int) : Rat) * (p.getD (i + 1) 0 - p.getD i 0)
theorem difP_len {p : List Rat} : (difP p).length = if p.length < 2 then 1 else p.length - 1 := by unfold difP; split <;> simp
theorem difP_get {p : List Rat} {i : Nat} (h : i + 1 < p.length) : (difP p).getD i 0 = (((p.length - 1 : Nat) : Int) : Rat) * (p.getD (i + 1) 0 - p.getD i 0) := by
  unfold difP
  rw [if_neg (by omega), List.getD_eq_getElem?_getD, List.getElem?_eq_getElem (by simp; omega)]; simp
theorem difP_rl {p : List Rat} {R : Nat} (hR : 1 ≤ R) (hl : p.length ≤ 1000) (h : ∀ x ∈ p, rl x ≤ R) : ∀ x ∈ difP p, rl x ≤ 2 * R + 4 := by
  intro x hx
  obtain ⟨k, hk, rfl⟩ := mem_getD hx
  rw [difP_len] at hk
  by_cases h2 : p.length < 2
  · rw [if_pos h2] at hk
    have : difP p = [0] := by unfold difP; rw [if_pos h2]
    rw [this]
    obtain rfl : k = 0 := by omega
    show rl 0 ≤ _
    rw [show rl 0 = 1 from rfl]; omega
  · rw [if_neg h2] at hk
    rw [difP_get (by omega)]
    have h3 := rl_int (n := ((p.length - 1 : Nat) : Int)) (by omega)
    have h4 := h _ (getD_mem (i := k) (by omega))
    have h5 := h _ (getD_mem (i := k + 1) (by omega))
    have h6 := rl_sub (p.getD (k + 1) 0) (p.getD k 0)
    have h7 := rl_mul (((p.length - 1 : Nat) : Int) : Rat) (p.getD (k + 1) 0 - p.getD k 0)
    omega
theorem nfc_Diff_0 {p : Prop} (h : p := by (try simp only [e1, e2, e3, e4, p1, p2, p3, q1, q2, q3, l1, t0, t1, r1, r2, r3, r4, Nat.zero_add, Nat.reduceMul, Nat.reduceAdd, b1, b2, b3, b4, b5, b6, i1, i2, i3, i4, i5, i6, Nat.reduceBEq, dfq, List.length_set, kills_map ratE, ratL_kill, spL_kill, LV.kill, kills]); exact rfl) : p := h
theorem mlc_Diff_1 {p : Prop} (h : p := by first | rfl | (simp only [e1, e2, e3, e4, p1, p2, p3, q1, q2, q3, l1, t0, t1, r1, r2, r3, r4, Nat.zero_add, Nat.reduceMul, Nat.reduceAdd, b1, b2, b3, b4, b5, b6, i1, i2, i3, i4, i5, i6, Nat.reduceBEq, dfq, List.length_set, kills_map ratE, ratL_kill, spL_kill, LV.kill, kills]; done) | (simp only [e1, e2, e3, e4, p1, p2, p3, q1, q2, q3, l1, t0, t1, r1, r2, r3, r4, Nat.zero_add, Nat.reduceMul, Nat.reduceAdd, b1, b2, b3, b4, b5, b6, i1, i2, i3, i4, i5, i6, Nat.reduceBEq, dfq, List.length_set, kills_map ratE, ratL_kill, spL_kill, LV.kill, kills]; rfl) | (simp only [e1, e2, e3, e4, p1, p2, p3, q1, q2, q3, l1, t0, t1, r1, r2, r3, r4, Nat.zero_add, Nat.reduceMul, Nat.reduceAdd, b1, b2, b3, b4, b5, b6, i1, i2, i3, i4, i5, i6, Nat.reduceBEq, dfq, List.length_set, kills_map ratE, ratL_kill, spL_kill, LV.kill, kills]; congr 2 <;> omega)) : p := h
theorem clc_Diff_2 {p : Prop} (h : p := by first | rfl | (simp only [e1, e2, e3, e4, p1, p2, p3, q1, q2, q3, l1, t0, t1, r1, r2, r3, r4, Nat.zero_add, Nat.reduceMul, Nat.reduceAdd, b1, b2, b3, b4, b5, b6, i1, i2, i3, i4, i5, i6, Nat.reduceBEq, dfq, List.length_set, kills_map ratE, ratL_kill, spL_kill, LV.kill, kills]; done) | (simp only [e1, e2, e3, e4, p1, p2, p3, q1, q2, q3, l1, t0, t1, r1, r2, r3, r4, Nat.zero_add, Nat.reduceMul, Nat.reduceAdd, b1, b2, b3, b4, b5, b6, i1, i2, i3, i4, i5, i6, Nat.reduceBEq, dfq, List.length_set, kills_map ratE, ratL_kill, spL_kill, LV.kill, kills]; rfl) | (simp only [e1, e2, e3, e4, p1, p2, p3, q1, q2, q3, l1, t0, t1, r1, r2, r3, r4, Nat.zero_add, Nat.reduceMul, Nat.reduceAdd, b1, b2, b3, b4, b5, b6, i1, i2, i3, i4, i5, i6, Nat.reduceBEq, dfq, List.length_set, kills_map ratE, ratL_kill, spL_kill, LV.kill, kills]; congr 3 <;> omega) | (simp only [e1, e2, e3, e4, p1, p2, p3, q1, q2, q3, l1, t0, t1, r1, r2, r3, r4, Nat.zero_add, Nat.reduceMul, Nat.reduceAdd, b1, b2, b3, b4, b5, b6, i1, i2, i3, i4, i5, i6, Nat.reduceBEq, dfq, List.length_set, kills_map ratE, ratL_kill, spL_kill, LV.kill, kills]; congr 2 <;> omega)) : p := h
namespace H_c_Diff
theorem om {p : Prop} (h : p := by first | (simp only [e1, e2, e3, e4, p1, p2, p3, q1, q2, q3, l1, t0, t1, r1, r2, r3, r4, Nat.zero_add, Nat.reduceMul, Nat.reduceAdd, b1, b2, b3, b4, b5, b6, i1, i2, i3, i4, i5, i6, Nat.reduceBEq, dfq, List.length_set, kills_map ratE, ratL_kill, spL_kill, LV.kill, kills]; omega) | omega) : p := h
end H_c_Diff
open H_c_Diff in
set_option maxHeartbeats 2000000 in
set_option maxRecDepth 100000 in
theorem c_Diff (p : List Rat) (hl : p.length ≤ 1000) (hpr : ∀ x ∈ p, rl x ≤ 1073741824) : CallP Try.prog 45 [.list 3 (p.map ratL)] (.list 3 ((difP p).map ratL)) := by
  refine callP_of fol Try.func45 rfl (by decide +kernel) (by decide +kernel) (Nat.le_of_ble_eq_true rfl) tm0 ?_
  refine wl_seq (wl_reg (asg ?_))
  refine st_end nfc_Diff_0 ?_
  refine then_n (wl_seq (wl_seq (wl_reg (mv ?_))))
  refine st_pure rfl ln37 ?_
  refine st_pure rfl (.bin rfl rfl rfl) ?_
  refine st_end nfc_Diff_0 ?_
  refine then_n ?_
  refine wl_cond rfl (fun h8 => ?_) (fun h8 => ?_)
  · skip
    have h8r := h8
    try simp only [hce, l1, t0, t1, dflt, val_dig] at h8
    have hE : difP p = [0] := by unfold difP; rw [if_pos (by omega)]
    refine wl_seq (wl_reg ?_)
    refine st_pure rfl (.build0 SL34 Z34a) ?_
    refine st_alloc rfl rfl (.lit1 ratE Try.underlying37 Z34 T34 rfl (by decide) (by decide)) ?_
    refine asg ?_
    refine st_end nfc_Diff_0 ?_
    refine then_n (wl_ret (then_r ?_))
    rw [hE]
    exact ret1f [10] rfl rfl (imm_refm ratE rfl rfl rfl)
  · skip
    have h8r := h8
    try simp only [hce, l1, t0, t1, dflt, val_dig] at h8
    have hdl : (difP p).length = p.length - 1 := by rw [difP_len, if_neg (by omega)]
    refine wl_skip (then_n (wl_seq (wl_reg (mv ?_))))
    refine st_pure rfl ln37 ?_
    refine st_pure rfl (.bin rfl rfl (sub1N (by omega) (by omega))) ?_
    refine st_callP rfl (.cons im0 .nil) (c_RInt ((p.length - 1 : Nat) : Int) (by omega) (by omega)) ?_
    refine st_alloc rfl rfl (.alloc Z34a) ?_
    refine st_store rfl sr34 ?_
    refine st_end nfc_Diff_0 ?_
    refine then_n (wl_seq (wl_reg (mv ?_)))
    refine st_pure rfl ln37 ?_
    refine st_pure rfl (.bin rfl rfl (sub1N (by omega) (by omega))) ?_
    refine st_alloc rfl rfl (.makeM (n := (p.length - 1)) (m := (p.length - 1)) ratE Try.underlying37 Z34 T34 B34 mlc_Diff_1 mlc_Diff_1 om om om) ?_
    refine asg ?_
    refine st_end nfc_Diff_0 ?_
    refine then_n (wl_seq (wl_seq (wl_reg (mv ?_))))
    refine st_pure rfl ln37 ?_
    refine mv ?_
    refine st_end nfc_Diff_0 ?_
    refine then_n (wl_block ?_)
    refine wl_loop (α := Nat × List Rat) (fun st L => (((((((St.mk L.slot (hp [(3, ⟨3, [ratL (((p.length - 1 : Nat) : Int) : Rat)], true⟩), (18, ⟨3, st.2.map ratL, true⟩)])).put (some 0) (.list 3 (p.map ratL))).put (some 3) (.eptr 3 3 0 0)).put (some 4) (.ref 18 3 0 (p.length - 1))).put (some 19) (.ref 18 3 0 (p.length - 1))).put (some 20) (nI64 (p.length - 1))).put (some 21) (nI64 st.1))) (fun st => st.1 ≤ p.length - 1 ∧ st.2.length = p.length - 1 ∧ st.2.take st.1 = (difP p).take st.1) (fun st => p.length - 1 - st.1) (0, List.replicate (p.length - 1) 0) (show (0) ≤ p.length - 1 ∧ (List.replicate (p.length - 1) 0).length = p.length - 1 ∧ (List.replicate (p.length - 1) 0).take (0) = (difP p).take (0) from ⟨Nat.zero_le _, by simp, rfl⟩) ⟨_, Weak.of_eq (put_id' (put_id' (put_id' (put_id' (put_id' (put_id' (mk_id' clc_Diff_2) clc_Diff_2) clc_Diff_2) clc_Diff_2) clc_Diff_2) clc_Diff_2) clc_Diff_2)⟩ ?_
    rintro ⟨i, w⟩ L1 hLC
    obtain ⟨hi, hwl, hwt⟩ : i ≤ p.length - 1 ∧ w.length = p.length - 1 ∧ w.take i = (difP p).take i := hLC
    show wpL _ _ _ (((((((St.mk L1.slot (hp [(3, ⟨3, [ratL (((p.length - 1 : Nat) : Int) : Rat)], true⟩), (18, ⟨3, w.map ratL, true⟩)])).put (some 0) (.list 3 (p.map ratL))).put (some 3) (.eptr 3 3 0 0)).put (some 4) (.ref 18 3 0 (p.length - 1))).put (some 19) (.ref 18 3 0 (p.length - 1))).put (some 20) (nI64 (p.length - 1))).put (some 21) (nI64 i))
    refine wl_seq (wl_reg ?_)
    refine st_pure rfl (.bin rfl rfl rfl) ?_
    refine st_end nfc_Diff_0 ?_
    refine then_n (wl_seq ?_)
    refine wl_cond rfl (fun h22 => ?_) (fun h22 => ?_)
    · skip
      have h22r := h22
      try simp only [hce, l1, t0, t1, dflt, val_dig] at h22
      have hi2 : i < p.length - 1 := by omega
      have hr1 := hpr _ (getD_mem (i := i) (by omega))
      have hr2 := hpr _ (getD_mem (i := i + 1) (by omega))
      have hr3 := rl_sub (p.getD (i + 1) 0) (p.getD i 0)
      have hr4 := rl_int (n := ((p.length - 1 : Nat) : Int)) (by omega)
      refine wl_skip (then_n (wl_seq (wl_block (wl_seq (wl_reg (mv (asg ?_)))))))
      refine st_end nfc_Diff_0 ?_
      refine then_n ?_
      refine wl_regD 15 (by decide +kernel) ?_
      refine mv (mv ?_)
      refine st_pure rfl ld34 ?_
      refine mv (mv ?_)
      refine st_pure rfl (.bin rfl rfl (add1N (by omega))) ?_
      refine st_pure rfl ix37 ?_
      refine st_pure rfl ld34 ?_
      refine mv (mv ?_)
      refine st_pure rfl ix37 ?_
      refine st_pure rfl ld34 ?_
      refine st_callP rfl (.cons im0 (.cons im0 .nil)) (c_RSub (p.getD (i + 1) 0) (p.getD i 0) (by omega)) ?_
      refine st_callP rfl (.cons im0 (.cons im0 .nil)) (c_RMul (((p.length - 1 : Nat) : Int) : Rat) (p.getD (i + 1) 0 - p.getD i 0) (by omega)) ?_
      refine st_pure rfl ix37 ?_
      refine st_store rfl sr34 ?_
      refine st_end nfc_Diff_0 ?_
      refine blk_n (then_n (wl_reg ?_))
      refine st_pure rfl (.bin rfl rfl (add64 om om)) ?_
      refine mv ?_
      refine st_end nfc_Diff_0 ?_
      refine then_n ?_
      exact ⟨(i + 1, w.set i ((((p.length - 1 : Nat) : Int) : Rat) * (p.getD (i + 1) 0 - p.getD i 0))), _, (show (i + 1) ≤ p.length - 1 ∧ (w.set i ((((p.length - 1 : Nat) : Int) : Rat) * (p.getD (i + 1) 0 - p.getD i 0))).length = p.length - 1 ∧ (w.set i ((((p.length - 1 : Nat) : Int) : Rat) * (p.getD (i + 1) 0 - p.getD i 0))).take (i + 1) = (difP p).take (i + 1) from ⟨by omega, by simp [hwl], set_takeR (by omega) (by omega) hwt (difP_get (by omega)).symm⟩), (show p.length - 1 - (i + 1) < p.length - 1 - i from by omega), Weak.of_eq (put_id' (put_id' (put_id' (put_id' (put_id' (put_id' (mk_id' clc_Diff_2) clc_Diff_2) clc_Diff_2) clc_Diff_2) clc_Diff_2) clc_Diff_2) clc_Diff_2)⟩
    · skip
      have h22r := h22
      try simp only [hce, l1, t0, t1, dflt, val_dig] at h22
      obtain rfl : i = p.length - 1 := by omega
      have hE : w = difP p := by
        rw [List.take_of_length_le (by omega), List.take_of_length_le (by omega)] at hwt
        exact hwt
      subst hE
      refine wl_exit ?_
      refine then_e (then_e (blk_e (then_n (wl_seq (wl_reg (mv (asg ?_)))))))
      refine st_end nfc_Diff_0 ?_
      refine then_n (wl_ret ?_)
      exact ret1f [18] rfl rfl (imm_refm ratE rfl rfl hdl.symm)
end Go.Proofs.Ythhdcfhaldcheaa
