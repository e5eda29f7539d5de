/- The law BernsteinLong. -/
import Derived.Test.YthhdcfhaldcheaaC3
set_option linter.unusedVariables false
set_option linter.unusedSimpArgs false
namespace Go.Proofs.Ythhdcfhaldcheaa
open Go.Lg
theorem remN64 {a b : Nat} (h : 0 < b) : binI .rem .i64 (a : Nat) (b : Nat) = some (.int .i64 ((a % b : Nat) : Int)) := by
  have e : ((a : Int)).tmod b = ((a % b : Nat) : Int) := by rw [Int.tmod_eq_emod_of_nonneg (by omega)]; simp
  simp [binI, e]; omega
theorem repl_rl (n : Nat) : ∀ x ∈ List.replicate n (0 : Rat), rl x ≤ 1 := fun x hx => by rw [(List.mem_replicate.1 hx).2]; exact Nat.le_refl _
theorem fp_any (A : Nat) (h0 : 0 < A) (hA : A ≤ 1048576) : ∃ (r : List Rat) (f : Int), ((f = 0 ∧ A ≤ 41) ∨ (f = 2 ∧ 41 < A)) ∧ CallP Try.prog 29 [.list 3 ((List.replicate A (0 : Rat)).map ratL)] (.tup [.list 3 (r.map ratL), iL f]) := by
  by_cases h : A ≤ 41
  · exact ⟨_, 0, .inl ⟨rfl, h⟩, c_FP (List.replicate A 0) 1 (by simpa using h0) (by simpa using h) (by omega) (repl_rl A)⟩
  · exact ⟨[], 2, .inr ⟨rfl, by omega⟩, c_FPErr (List.replicate A 0) (by simpa using hA) (.inr (by simp; omega))⟩
theorem mul_any (A : Nat) (q : List Rat) (h0 : 0 < A) (hA : A ≤ 41) (hq0 : 0 < q.length) (hq : q.length ≤ 41) (hqR : ∀ x ∈ q, rl x ≤ 1) : ∃ (r : List Rat) (f : Int), ((f = 0 ∧ A + q.length - 2 ≤ 40) ∨ (f = 2 ∧ 40 < A + q.length - 2)) ∧
    CallP Try.prog 31 [.list 3 ((List.replicate A (0 : Rat)).map ratL), .list 3 (q.map ratL)] (.tup [.list 3 (r.map ratL), iL f]) := by
  by_cases h : A + q.length - 2 ≤ 40
  · exact ⟨_, 0, .inl ⟨rfl, h⟩, c_BMul (List.replicate A 0) q 1 (by simpa using h0) hq0 (by simp; omega) (by omega) (by omega) (repl_rl A) hqR⟩
  · exact ⟨[], 2, .inr ⟨rfl, by omega⟩, c_BMulErr (List.replicate A 0) q (by simp; omega) (by omega) (by simpa using h0) hq0 (by simp; omega)⟩
theorem nb1 {A : Nat} (h : 0 < A) : (!(decide (0 < (List.replicate A (0 : Rat)).length ∧ (List.replicate A (0 : Rat)).length ≤ 41) == decide (((A : Nat) : Int) ≤ 41))) = false := by
  rw [show decide (0 < (List.replicate A (0 : Rat)).length ∧ (List.replicate A (0 : Rat)).length ≤ 41) = decide (((A : Nat) : Int) ≤ 41) by rw [decide_eq_decide]; simp; omega]; simp
theorem nb2 {w : List Rat} (h : 0 < w.length ∧ w.length ≤ 41) : (!decide (0 < w.length ∧ w.length ≤ 41)) = false := by rw [decide_eq_true h]; rfl
theorem nb3 {A : Nat} {f : Int} (h : (f = 0 ∧ A ≤ 41) ∨ (f = 2 ∧ 41 < A)) : (!((f == 0) == decide (((A : Nat) : Int) ≤ 41))) = false := by
  rcases h with ⟨rfl, h⟩ | ⟨rfl, h⟩
  · rw [decide_eq_true (by omega)]; rfl
  · rw [decide_eq_false (by omega)]; rfl
theorem nb4 {A B : Nat} {f : Int} (h : (f = 0 ∧ A + B - 2 ≤ 40) ∨ (f = 2 ∧ 40 < A + B - 2)) (h2 : 2 ≤ A + B) : ((f == 0) == decide (((A : Nat) : Int) + ((B : Nat) : Int) - 2 ≤ 40)) = true := by
  rcases h with ⟨rfl, h⟩ | ⟨rfl, h⟩
  · rw [decide_eq_true (by omega)]; rfl
  · rw [decide_eq_false (by omega)]; rfl
theorem nb5 {a b : Nat} {f : Int} (h : (f = 0 ∧ a ≤ 40) ∨ (f = 2 ∧ 40 < b)) (h2 : (f == 0) = false) : (f == 2) = true := by
  rcases h with ⟨rfl, h⟩ | ⟨rfl, h⟩
  · cases h2
  · rfl
theorem nfc_BernsteinLong_0 {p : Prop} (h : p := by (try simp only [e1, e2, e3, e4, p1, p2, p3, q1, q2, q3, l1, t0, t1, r1, r2, r3, r4, Nat.zero_add, Nat.reduceMul, Nat.reduceAdd, b1, b2, b3, b4, b5, b6, i1, i2, i3, i4, i5, i6, Nat.reduceBEq, hA, hB, dfq, List.length_replicate, List.length_set, frz_nil, eff, kills_map ratE, ratL_kill, LV.kill, kills]); exact rfl) : p := h
theorem mlc_BernsteinLong_1 {p : Prop} (h : p := by first | rfl | (simp only [e1, e2, e3, e4, p1, p2, p3, q1, q2, q3, l1, t0, t1, r1, r2, r3, r4, Nat.zero_add, Nat.reduceMul, Nat.reduceAdd, b1, b2, b3, b4, b5, b6, i1, i2, i3, i4, i5, i6, Nat.reduceBEq, hA, hB, dfq, List.length_replicate, List.length_set, frz_nil, eff, kills_map ratE, ratL_kill, LV.kill, kills]; done) | (simp only [e1, e2, e3, e4, p1, p2, p3, q1, q2, q3, l1, t0, t1, r1, r2, r3, r4, Nat.zero_add, Nat.reduceMul, Nat.reduceAdd, b1, b2, b3, b4, b5, b6, i1, i2, i3, i4, i5, i6, Nat.reduceBEq, hA, hB, dfq, List.length_replicate, List.length_set, frz_nil, eff, kills_map ratE, ratL_kill, LV.kill, kills]; rfl) | (simp only [e1, e2, e3, e4, p1, p2, p3, q1, q2, q3, l1, t0, t1, r1, r2, r3, r4, Nat.zero_add, Nat.reduceMul, Nat.reduceAdd, b1, b2, b3, b4, b5, b6, i1, i2, i3, i4, i5, i6, Nat.reduceBEq, hA, hB, dfq, List.length_replicate, List.length_set, frz_nil, eff, kills_map ratE, ratL_kill, LV.kill, kills]; congr 2 <;> omega)) : p := h
theorem clc_BernsteinLong_2 {p : Prop} (h : p := by first | rfl | (simp only [e1, e2, e3, e4, p1, p2, p3, q1, q2, q3, l1, t0, t1, r1, r2, r3, r4, Nat.zero_add, Nat.reduceMul, Nat.reduceAdd, b1, b2, b3, b4, b5, b6, i1, i2, i3, i4, i5, i6, Nat.reduceBEq, hA, hB, dfq, List.length_replicate, List.length_set, frz_nil, eff, kills_map ratE, ratL_kill, LV.kill, kills]; done) | (simp only [e1, e2, e3, e4, p1, p2, p3, q1, q2, q3, l1, t0, t1, r1, r2, r3, r4, Nat.zero_add, Nat.reduceMul, Nat.reduceAdd, b1, b2, b3, b4, b5, b6, i1, i2, i3, i4, i5, i6, Nat.reduceBEq, hA, hB, dfq, List.length_replicate, List.length_set, frz_nil, eff, kills_map ratE, ratL_kill, LV.kill, kills]; rfl) | (simp only [e1, e2, e3, e4, p1, p2, p3, q1, q2, q3, l1, t0, t1, r1, r2, r3, r4, Nat.zero_add, Nat.reduceMul, Nat.reduceAdd, b1, b2, b3, b4, b5, b6, i1, i2, i3, i4, i5, i6, Nat.reduceBEq, hA, hB, dfq, List.length_replicate, List.length_set, frz_nil, eff, kills_map ratE, ratL_kill, LV.kill, kills]; congr 3 <;> omega) | (simp only [e1, e2, e3, e4, p1, p2, p3, q1, q2, q3, l1, t0, t1, r1, r2, r3, r4, Nat.zero_add, Nat.reduceMul, Nat.reduceAdd, b1, b2, b3, b4, b5, b6, i1, i2, i3, i4, i5, i6, Nat.reduceBEq, hA, hB, dfq, List.length_replicate, List.length_set, frz_nil, eff, kills_map ratE, ratL_kill, LV.kill, kills]; congr 2 <;> omega)) : p := h
namespace H_c_BernsteinLong
theorem om {p : Prop} (h : p := by first | (simp only [e1, e2, e3, e4, p1, p2, p3, q1, q2, q3, l1, t0, t1, r1, r2, r3, r4, Nat.zero_add, Nat.reduceMul, Nat.reduceAdd, b1, b2, b3, b4, b5, b6, i1, i2, i3, i4, i5, i6, Nat.reduceBEq, hA, hB, dfq, List.length_replicate, List.length_set, frz_nil, eff, kills_map ratE, ratL_kill, LV.kill, kills]; omega) | omega) : p := h
end H_c_BernsteinLong
open H_c_BernsteinLong in
set_option maxHeartbeats 4000000 in
set_option maxRecDepth 100000 in
theorem c_BernsteinLong (n m : Int) (hn : -9223372036854775808 ≤ n ∧ n ≤ 9223372036854775807) (hm : -9223372036854775808 ≤ m ∧ m ≤ 9223372036854775807) : CallP Try.prog 5 [iL n, iL m] (bL true) := by
  have h1 := Int.emod_nonneg n (show (44 : Int) ≠ 0 by decide)
  have h2 := Int.emod_lt_of_pos n (show (0 : Int) < 44 by decide)
  have h3 := Int.emod_nonneg m (show (41 : Int) ≠ 0 by decide)
  have h4 := Int.emod_lt_of_pos m (show (0 : Int) < 41 by decide)
  obtain ⟨A, hA⟩ : ∃ A : Nat, 1 + n % 44 = (A : Int) := ⟨(1 + n % 44).toNat, by omega⟩
  obtain ⟨B, hB⟩ : ∃ B : Nat, 1 + m % 41 = (B : Int) := ⟨(1 + m % 41).toNat, by omega⟩
  obtain ⟨r1_, f1, hf1, hF⟩ := fp_any A (by omega) (by omega)
  refine callP_of fol Try.func5 rfl (by decide +kernel) (by decide +kernel) (Nat.le_of_ble_eq_true rfl) tm0 ?_
  have eff : True := trivial
  refine wl_seq (wl_reg (asg ?_))
  refine st_end nfc_BernsteinLong_0 ?_
  refine then_n (wl_seq (wl_reg (mv ?_)))
  refine st_callP rfl (.cons im0 (.cons im0 .nil)) (c_Mod n 44 (by decide) (by decide)) ?_
  refine st_pure rfl (.bin rfl rfl (add64 om om)) ?_
  refine asg ?_
  refine st_end nfc_BernsteinLong_0 ?_
  refine then_n (wl_seq (wl_reg (mv ?_)))
  refine st_callP rfl (.cons im0 (.cons im0 .nil)) (c_Mod m 41 (by decide) (by decide)) ?_
  refine st_pure rfl (.bin rfl rfl (add64 om om)) ?_
  refine asg ?_
  refine st_end nfc_BernsteinLong_0 ?_
  refine then_n (wl_seq ?_)
  refine wl_regD 6 (by decide +kernel) ?_
  refine mv ?_
  refine st_alloc rfl rfl (.makeM (n := A) (m := A) ratE Try.underlying37 Z34 T34 B34 mlc_BernsteinLong_1 mlc_BernsteinLong_1 om om om) ?_
  refine mv ?_
  refine st_alloc rfl rfl (.makeM (n := B) (m := B) ratE Try.underlying37 Z34 T34 B34 mlc_BernsteinLong_1 mlc_BernsteinLong_1 om om om) ?_
  refine asg (asg ?_)
  refine st_end nfc_BernsteinLong_0 ?_
  refine then_n (wl_seq (wl_seq (wl_reg (asg ?_))))
  refine st_end nfc_BernsteinLong_0 ?_
  refine then_n (wl_block ?_)
  refine wl_loop (α := Nat × List Rat) (fun st L => ((((((St.mk L.slot (hp [(21, ⟨3, (List.replicate A (0 : Rat)).map ratL, true⟩), (23, ⟨3, st.2.map ratL, true⟩)])).put (some 5) (nI64 A)).put (some 6) (nI64 B)).put (some 7) (.ref 21 3 0 A)).put (some 8) (.ref 23 3 0 B)).put (some 9) (nI64 st.1))) (fun st => st.1 ≤ B ∧ st.2.length = B ∧ ∀ x ∈ st.2, rl x ≤ 1) (fun st => B - st.1) (0, List.replicate B 0) (show (0) ≤ B ∧ (List.replicate B 0).length = B ∧ ∀ x ∈ (List.replicate B 0), rl x ≤ 1 from ⟨Nat.zero_le _, by simp, repl_rl B⟩) ⟨_, Weak.of_eq (put_id' (put_id' (put_id' (put_id' (put_id' (mk_id' clc_BernsteinLong_2) clc_BernsteinLong_2) clc_BernsteinLong_2) clc_BernsteinLong_2) clc_BernsteinLong_2) clc_BernsteinLong_2)⟩ ?_
  rintro ⟨i, w⟩ L1 hLC
  obtain ⟨hi, hwl, hwr⟩ : i ≤ B ∧ w.length = B ∧ ∀ x ∈ w, rl x ≤ 1 := hLC
  show wpL _ _ _ ((((((St.mk L1.slot (hp [(21, ⟨3, (List.replicate A (0 : Rat)).map ratL, true⟩), (23, ⟨3, w.map ratL, true⟩)])).put (some 5) (nI64 A)).put (some 6) (nI64 B)).put (some 7) (.ref 21 3 0 A)).put (some 8) (.ref 23 3 0 B)).put (some 9) (nI64 i))
  refine wl_seq (wl_seq (wl_reg (mv (mv ?_))))
  refine st_pure rfl (.bin rfl rfl rfl) ?_
  refine st_end nfc_BernsteinLong_0 ?_
  refine then_n ?_
  refine wl_cond rfl (fun h26 => ?_) (fun h26 => ?_)
  · skip
    have h26r := h26
    try simp only [hce, l1, t0, t1, dflt, val_dig] at h26
    refine wl_skip (then_n (wl_seq (wl_block (wl_reg (mv (mv (mv ?_)))))))
    refine st_pure rfl (.bin rfl rfl (remN64 (b := 3) (by decide))) ?_
    refine st_callP rfl (.cons im0 .nil) (c_FInt ((i % 3 : Nat) : Int) (by omega) (by omega)) ?_
    refine st_pure rfl ix37 ?_
    refine st_store rfl sr34 ?_
    refine st_end nfc_BernsteinLong_0 ?_
    refine blk_n (then_n (wl_reg (mv ?_)))
    refine st_pure rfl (.bin rfl rfl (add64 om om)) ?_
    refine asg ?_
    refine st_end nfc_BernsteinLong_0 ?_
    refine then_n ?_
    exact ⟨(i + 1, w.set i (((i % 3 : Nat) : Int) : Rat)), _, (show (i + 1) ≤ B ∧ (w.set i (((i % 3 : Nat) : Int) : Rat)).length = B ∧ ∀ x ∈ (w.set i (((i % 3 : Nat) : Int) : Rat)), rl x ≤ 1 from ⟨by omega, by simp [hwl], set_rl hwr (rl_int (by omega))⟩), (show B - (i + 1) < B - i from by omega), Weak.of_eq (put_id' (put_id' (put_id' (put_id' (put_id' (mk_id' clc_BernsteinLong_2) clc_BernsteinLong_2) clc_BernsteinLong_2) clc_BernsteinLong_2) clc_BernsteinLong_2) clc_BernsteinLong_2)⟩
  · skip
    have h26r := h26
    try simp only [hce, l1, t0, t1, dflt, val_dig] at h26
    obtain rfl : i = B := by omega
    refine wl_exit ?_
    refine then_e (then_e (blk_e (then_n (wl_seq (wl_reg (mv ?_))))))
    refine st_callPf [21] rfl rfl (.cons im1 .nil) (hF) ?_
    refine mv ?_
    refine st_pure rfl (.extract rfl rfl nt0) ?_
    refine st_pure rfl (.extract rfl rfl nt0) ?_
    refine asg (asg ?_)
    refine st_end nfc_BernsteinLong_0 ?_
    refine then_n (wl_seq (wl_seq (wl_reg (mv ?_))))
    refine st_callPf [21] rfl rfl (.cons im1 .nil) (c_BValid (List.replicate A (0 : Rat)) (by simp; omega) (fun x hx => Nat.le_trans (repl_rl A x hx) (by decide))) ?_
    refine mv ?_
    refine st_pure rfl (.bin rfl rfl rfl) ?_
    refine st_pure rfl (.bne rfl rfl Try.underlying4) ?_
    refine mv ?_
    refine st_pure (guardX (v := false) rfl rfl ((nb1 (by omega))) rfl) (.move _) ?_
    refine st_callPf [23] (guardX (v := false) rfl rfl ((nb1 (by omega))) rfl) rfl (.cons im1 .nil) (c_BValid w (by omega) (fun x hx => Nat.le_trans (hwr x hx) (by decide))) ?_
    refine st_pure (guardX (v := false) rfl rfl ((nb1 (by omega))) rfl) (.not rfl) ?_
    refine st_pure rfl (.pickF rfl ((nb1 (by omega)))) ?_
    refine mv ?_
    refine st_callP (guardX (v := false) rfl rfl ((nb2 (by omega))) rfl) (.cons im0 .nil) (c_BValid [] (by decide) (fun x hx => by cases hx)) ?_
    refine st_pure rfl (.pickF rfl ((nb2 (by omega)))) ?_
    refine mv ?_
    refine st_pure (guardX (v := false) rfl rfl ((by decide)) rfl) (.move _) ?_
    refine st_pure (guardX (v := false) rfl rfl ((by decide)) rfl) (.bin rfl rfl rfl) ?_
    refine st_pure (guardX (v := false) rfl rfl ((by decide)) rfl) (.move _) ?_
    refine st_pure (guardX (v := false) rfl rfl ((by decide)) rfl) (.bin rfl rfl rfl) ?_
    refine st_pure (guardX (v := false) rfl rfl ((by decide)) rfl) (.bne rfl rfl Try.underlying4) ?_
    refine st_pure rfl (.pickF rfl ((by decide))) ?_
    refine st_end nfc_BernsteinLong_0 ?_
    refine then_n ?_
    refine wl_condY (b := _) rfl (nb3 hf1) ?_
    refine wl_skip (then_n (wl_seq (wl_seq (wl_reg (mv ?_)))))
    refine st_pure rfl (.bin rfl rfl rfl) ?_
    refine st_end nfc_BernsteinLong_0 ?_
    refine then_n ?_
    refine wl_cond rfl (fun h61 => ?_) (fun h61 => ?_)
    · skip
      have h61r := h61
      try simp only [hce, l1, t0, t1, dflt, val_dig] at h61
      refine wl_seq (wl_reg ?_)
      refine st_callP rfl .nil (c_awake5) ?_
      refine asg ?_
      refine st_end nfc_BernsteinLong_0 ?_
      refine then_n (wl_ret (then_r ?_))
      exact ret1 rfl (by first | exact .pure rfl | exact .pure (limL_pure _) | exact .pure (magL_pure _) | exact .pure (ratE.pure _) | exact .pure (pure_lst u32E _ _) | exact .pure (pure_lst ratE _ _))
    · skip
      have h61r := h61
      try simp only [hce, l1, t0, t1, dflt, val_dig] at h61
      obtain ⟨r2_, f2, hf2, hM⟩ := mul_any A w (by omega) (by omega) (by omega) (by omega) hwr
      rw [hwl] at hf2
      refine wl_skip (then_n (wl_seq (wl_reg (mv (mv ?_)))))
      refine st_callPf [21, 23] rfl rfl (.cons im1 (.cons im1 .nil)) (hM) ?_
      refine mv ?_
      refine st_pure rfl (.extract rfl rfl nt0) ?_
      refine st_pure rfl (.extract rfl rfl nt0) ?_
      refine asg (asg ?_)
      refine st_end nfc_BernsteinLong_0 ?_
      refine then_n (wl_seq (wl_reg (mv ?_)))
      refine st_pure rfl (.bin rfl rfl rfl) ?_
      refine mv (mv ?_)
      refine st_pure rfl (.bin rfl rfl (add64 om om)) ?_
      refine st_pure rfl (.bin rfl rfl (sub64 om om)) ?_
      refine st_pure rfl (.bin rfl rfl rfl) ?_
      refine st_pure rfl (.beq rfl rfl Try.underlying4) ?_
      refine mv ?_
      refine st_pure (guardX (v := true) rfl rfl ((nb4 hf2 (by omega))) rfl) (.move _) ?_
      refine st_pure (guardX (v := true) rfl rfl ((nb4 hf2 (by omega))) rfl) (.bin rfl rfl rfl) ?_
      refine st_pure (guardX (v := true) rfl rfl ((nb4 hf2 (by omega))) rfl) (.move _) ?_
      refine opsL_split (d := 80) rfl (fun h80 => ?_) (fun h80 => ?_)
      · skip
        have h80r := h80
        try simp only [hce, l1, t0, t1, dflt, val_dig] at h80
        refine st_skip (guardX (v := true) rfl rfl (h80r) rfl) ?_
        refine st_skip (guardX (v := true) rfl rfl (h80r) rfl) ?_
        refine st_pure (guardX (v := true) rfl rfl ((nb4 hf2 (by omega))) rfl) (.pickT rfl (h80r)) ?_
        refine st_pure rfl (.pickT rfl ((nb4 hf2 (by omega)))) ?_
        refine mv ?_
        refine st_callP (guardX (v := true) rfl rfl (rfl) rfl) .nil (c_awake5) ?_
        refine st_pure rfl (.pickT rfl (rfl)) ?_
        refine asg ?_
        refine st_end nfc_BernsteinLong_0 ?_
        refine then_n (wl_ret ?_)
        exact ret1 rfl (by first | exact .pure rfl | exact .pure (limL_pure _) | exact .pure (magL_pure _) | exact .pure (ratE.pure _) | exact .pure (pure_lst u32E _ _) | exact .pure (pure_lst ratE _ _))
      · skip
        have h80r := h80
        try simp only [hce, l1, t0, t1, dflt, val_dig] at h80
        refine st_pure (guardX (v := false) rfl rfl (h80r) rfl) (.move _) ?_
        refine st_pure (guardX (v := false) rfl rfl (h80r) rfl) (.bin rfl rfl rfl) ?_
        refine st_pure (guardX (v := true) rfl rfl ((nb4 hf2 (by omega))) rfl) (.pickF rfl (h80r)) ?_
        refine st_pure rfl (.pickT rfl ((nb4 hf2 (by omega)))) ?_
        refine mv ?_
        refine st_callP (guardX (v := true) rfl rfl ((nb5 hf2 h80r)) rfl) .nil (c_awake5) ?_
        refine st_pure rfl (.pickT rfl ((nb5 hf2 h80r))) ?_
        refine asg ?_
        refine st_end nfc_BernsteinLong_0 ?_
        refine then_n (wl_ret ?_)
        exact ret1 rfl (by first | exact .pure rfl | exact .pure (limL_pure _) | exact .pure (magL_pure _) | exact .pure (ratE.pure _) | exact .pure (pure_lst u32E _ _) | exact .pure (pure_lst ratE _ _))
end Go.Proofs.Ythhdcfhaldcheaa
