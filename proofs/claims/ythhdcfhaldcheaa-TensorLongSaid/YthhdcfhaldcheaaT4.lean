/- Which nets are valid; the law TensorLong. -/
import Derived.Test.YthhdcfhaldcheaaT3
import Derived.Test.YthhdcfhaldcheaaL1
set_option linter.unusedVariables false
set_option linter.unusedSimpArgs false
namespace Go.Proofs.Ythhdcfhaldcheaa
open Go.Lg
/-! ### the law TensorLong -/
theorem a7_val : vaT 1 1 [0, 0, 0, 1] = true := by decide +kernel
theorem repl_rl1 (n : Nat) : ∀ x ∈ List.replicate n (0 : Rat), rl x ≤ 1 := fun x hx => by rw [(List.mem_replicate.1 hx).2]; exact Nat.le_refl _
theorem tm_any (U1 V1 U2 V2 : Nat) (a b : List Rat) (ha : a.length = (U1 + 1) * (V1 + 1)) (hb : b.length = (U2 + 1) * (V2 + 1)) (hal : a.length ≤ 1048576) (hbl : b.length ≤ 1048576) (haR : ∀ x ∈ a, rl x ≤ 1) (hbR : ∀ x ∈ b, rl x ≤ 1) :
    ∃ (U V : Nat) (c : List Rat) (f : Int), ((f = 0 ∧ U1 + U2 ≤ 40 ∧ V1 + V2 ≤ 40) ∨ (f = 2 ∧ (40 < U1 + U2 ∨ 40 < V1 + V2))) ∧
      CallP Try.prog 37 [.agg [nI64 U1, nI64 V1, .list 3 (a.map ratL)], .agg [nI64 U2, nI64 V2, .list 3 (b.map ratL)]] (.tup [.agg [nI64 U, nI64 V, .list 3 (c.map ratL)], iL f]) := by
  have h1 : U1 + 1 ≤ a.length := by rw [ha]; exact Nat.le_mul_of_pos_right _ (Nat.succ_pos V1)
  have h2 : V1 + 1 ≤ a.length := by rw [ha]; exact Nat.le_mul_of_pos_left _ (Nat.succ_pos U1)
  have h3 : U2 + 1 ≤ b.length := by rw [hb]; exact Nat.le_mul_of_pos_right _ (Nat.succ_pos V2)
  have h4 : V2 + 1 ≤ b.length := by rw [hb]; exact Nat.le_mul_of_pos_left _ (Nat.succ_pos U2)
  by_cases h : U1 + U2 ≤ 40 ∧ V1 + V2 ≤ 40
  · exact ⟨_, _, _, 0, .inl ⟨rfl, h.1, h.2⟩, c_TMul U1 V1 U2 V2 a b ha hb hal hbl h.1 h.2 1 (by decide) (by decide) haR hbR⟩
  · exact ⟨0, 0, [], 2, .inr ⟨rfl, by omega⟩, c_TMulErr U1 V1 U2 V2 a b (by omega) (by omega) (by omega) (by omega) (by omega)⟩
theorem tl_ok {A B : Nat} {f : Int} {P Q : Prop} [Decidable P] (h : (f = 0 ∧ A + B ≤ 40) ∨ (f = 2 ∧ 40 < A + B)) : (f == if 40 < A + B then (2 : Int) else 0) = true := by
  rcases h with ⟨rfl, h⟩ | ⟨rfl, h⟩
  · rw [if_neg (by omega)]; rfl
  · rw [if_pos h]; rfl
theorem nfc_TValid_0 {p : Prop} (h : p := by (try simp only [e1, e2, e3, e4, p1, p2, p3, q1, q2, q3, l1, t0, t1, r1, r2, r3, r4, Nat.zero_add, Nat.reduceMul, Nat.reduceAdd, b1, b2, b3, b4, b5, b6, i1, i2, i3, i4, i5, i6, Nat.reduceBEq, dfq, kills_map ratE, ratL_kill, spL_kill, LV.kill, kills]); exact rfl) : p := h
theorem clc_TValid_1 {p : Prop} (h : p := by first | rfl | (simp only [e1, e2, e3, e4, p1, p2, p3, q1, q2, q3, l1, t0, t1, r1, r2, r3, r4, Nat.zero_add, Nat.reduceMul, Nat.reduceAdd, b1, b2, b3, b4, b5, b6, i1, i2, i3, i4, i5, i6, Nat.reduceBEq, dfq, kills_map ratE, ratL_kill, spL_kill, LV.kill, kills]; done) | (simp only [e1, e2, e3, e4, p1, p2, p3, q1, q2, q3, l1, t0, t1, r1, r2, r3, r4, Nat.zero_add, Nat.reduceMul, Nat.reduceAdd, b1, b2, b3, b4, b5, b6, i1, i2, i3, i4, i5, i6, Nat.reduceBEq, dfq, kills_map ratE, ratL_kill, spL_kill, LV.kill, kills]; rfl) | (simp only [e1, e2, e3, e4, p1, p2, p3, q1, q2, q3, l1, t0, t1, r1, r2, r3, r4, Nat.zero_add, Nat.reduceMul, Nat.reduceAdd, b1, b2, b3, b4, b5, b6, i1, i2, i3, i4, i5, i6, Nat.reduceBEq, dfq, kills_map ratE, ratL_kill, spL_kill, LV.kill, kills]; congr 3 <;> omega) | (simp only [e1, e2, e3, e4, p1, p2, p3, q1, q2, q3, l1, t0, t1, r1, r2, r3, r4, Nat.zero_add, Nat.reduceMul, Nat.reduceAdd, b1, b2, b3, b4, b5, b6, i1, i2, i3, i4, i5, i6, Nat.reduceBEq, dfq, kills_map ratE, ratL_kill, spL_kill, LV.kill, kills]; congr 2 <;> omega)) : p := h
namespace H_c_TValid
theorem om {p : Prop} (h : p := by first | (simp only [e1, e2, e3, e4, p1, p2, p3, q1, q2, q3, l1, t0, t1, r1, r2, r3, r4, Nat.zero_add, Nat.reduceMul, Nat.reduceAdd, b1, b2, b3, b4, b5, b6, i1, i2, i3, i4, i5, i6, Nat.reduceBEq, dfq, kills_map ratE, ratL_kill, spL_kill, LV.kill, kills]; omega) | omega) : p := h
end H_c_TValid
open H_c_TValid in
set_option maxHeartbeats 4000000 in
set_option maxRecDepth 100000 in
theorem c_TValid (u v : Int) (c : List Rat) (hu : -9223372036854775808 ≤ u ∧ u ≤ 9223372036854775807) (hv : -9223372036854775808 ≤ v ∧ v ≤ 9223372036854775807) (hl : c.length ≤ 1048576) (hcR : ∀ x ∈ c, rl x ≤ 1099511627776) : CallP Try.prog 14 [.agg [iL u, iL v, .list 3 (c.map ratL)]] (bL (vaT u v c)) := by
  refine callP_of fol Try.func14 rfl (by decide +kernel) (by decide +kernel) (Nat.le_of_ble_eq_true rfl) tm0 ?_
  refine wl_seq (wl_reg ?_)
  refine st_alloc rfl rfl (.box ne0) ?_
  refine asg ?_
  refine st_end nfc_TValid_0 ?_
  refine then_n (wl_seq (wl_seq (wl_reg ?_)))
  refine st_pure rfl fa27 ?_
  refine st_pure rfl ld3 ?_
  refine st_pure rfl (.bin rfl rfl rfl) ?_
  refine mv ?_
  refine opsL_split (d := 8) rfl (fun h8 => ?_) (fun h8 => ?_)
  · skip
    have h8r := h8
    try simp only [hce, l1, t0, t1, dflt, val_dig] at h8
    refine st_skip (guardX (v := true) rfl rfl (h8r) rfl) ?_
    refine st_skip (guardX (v := true) rfl rfl (h8r) rfl) ?_
    refine st_skip (guardX (v := true) rfl rfl (h8r) rfl) ?_
    refine st_pure rfl (.pickT rfl (h8r)) ?_
    refine mv ?_
    refine st_skip (guardX (v := true) rfl rfl (rfl) rfl) ?_
    refine st_skip (guardX (v := true) rfl rfl (rfl) rfl) ?_
    refine st_skip (guardX (v := true) rfl rfl (rfl) rfl) ?_
    refine st_pure rfl (.pickT rfl (rfl)) ?_
    refine mv ?_
    refine st_skip (guardX (v := true) rfl rfl (rfl) rfl) ?_
    refine st_skip (guardX (v := true) rfl rfl (rfl) rfl) ?_
    refine st_skip (guardX (v := true) rfl rfl (rfl) rfl) ?_
    refine st_pure rfl (.pickT rfl (rfl)) ?_
    refine mv ?_
    refine st_skip (guardX (v := true) rfl rfl (rfl) rfl) ?_
    refine st_skip (guardX (v := true) rfl rfl (rfl) rfl) ?_
    refine st_skip (guardX (v := true) rfl rfl (rfl) rfl) ?_
    refine st_skip (guardX (v := true) rfl rfl (rfl) rfl) ?_
    refine st_skip (guardX (v := true) rfl rfl (rfl) rfl) ?_
    refine st_skip (guardX (v := true) rfl rfl (rfl) rfl) ?_
    refine st_skip (guardX (v := true) rfl rfl (rfl) rfl) ?_
    refine st_skip (guardX (v := true) rfl rfl (rfl) rfl) ?_
    refine st_skip (guardX (v := true) rfl rfl (rfl) rfl) ?_
    refine st_skip (guardX (v := true) rfl rfl (rfl) rfl) ?_
    refine st_skip (guardX (v := true) rfl rfl (rfl) rfl) ?_
    refine st_pure rfl (.pickT rfl (rfl)) ?_
    refine st_end nfc_TValid_0 ?_
    refine then_n ?_
    refine wl_condX (b := _) rfl rfl ?_
    refine wl_seq (wl_reg (asg ?_))
    refine st_end nfc_TValid_0 ?_
    refine then_n (wl_ret (then_r ?_))
    rw [show vaT u v c = false from decide_eq_false (by omega)]
    exact ret1 rfl (by first | exact .pure rfl | exact .pure (limL_pure _) | exact .pure (magL_pure _) | exact .pure (ratE.pure _) | exact .pure (pure_lst u32E _ _) | exact .pure (pure_lst ratE _ _))
  · skip
    have h8r := h8
    try simp only [hce, l1, t0, t1, dflt, val_dig] at h8
    refine st_pure (guardX (v := false) rfl rfl (h8r) rfl) fa27 ?_
    refine st_pure (guardX (v := false) rfl rfl (h8r) rfl) ld3 ?_
    refine st_pure (guardX (v := false) rfl rfl (h8r) rfl) (.bin rfl rfl rfl) ?_
    refine st_pure rfl (.pickF rfl (h8r)) ?_
    refine mv ?_
    refine opsL_split (d := 13) rfl (fun h13 => ?_) (fun h13 => ?_)
    · skip
      have h13r := h13
      try simp only [hce, l1, t0, t1, dflt, val_dig] at h13
      refine st_skip (guardX (v := true) rfl rfl (h13r) rfl) ?_
      refine st_skip (guardX (v := true) rfl rfl (h13r) rfl) ?_
      refine st_skip (guardX (v := true) rfl rfl (h13r) rfl) ?_
      refine st_pure rfl (.pickT rfl (h13r)) ?_
      refine mv ?_
      refine st_skip (guardX (v := true) rfl rfl (rfl) rfl) ?_
      refine st_skip (guardX (v := true) rfl rfl (rfl) rfl) ?_
      refine st_skip (guardX (v := true) rfl rfl (rfl) rfl) ?_
      refine st_pure rfl (.pickT rfl (rfl)) ?_
      refine mv ?_
      refine st_skip (guardX (v := true) rfl rfl (rfl) rfl) ?_
      refine st_skip (guardX (v := true) rfl rfl (rfl) rfl) ?_
      refine st_skip (guardX (v := true) rfl rfl (rfl) rfl) ?_
      refine st_skip (guardX (v := true) rfl rfl (rfl) rfl) ?_
      refine st_skip (guardX (v := true) rfl rfl (rfl) rfl) ?_
      refine st_skip (guardX (v := true) rfl rfl (rfl) rfl) ?_
      refine st_skip (guardX (v := true) rfl rfl (rfl) rfl) ?_
      refine st_skip (guardX (v := true) rfl rfl (rfl) rfl) ?_
      refine st_skip (guardX (v := true) rfl rfl (rfl) rfl) ?_
      refine st_skip (guardX (v := true) rfl rfl (rfl) rfl) ?_
      refine st_skip (guardX (v := true) rfl rfl (rfl) rfl) ?_
      refine st_pure rfl (.pickT rfl (rfl)) ?_
      refine st_end nfc_TValid_0 ?_
      refine then_n ?_
      refine wl_condX (b := _) rfl rfl ?_
      refine wl_seq (wl_reg (asg ?_))
      refine st_end nfc_TValid_0 ?_
      refine then_n (wl_ret (then_r ?_))
      rw [show vaT u v c = false from decide_eq_false (by omega)]
      exact ret1 rfl (by first | exact .pure rfl | exact .pure (limL_pure _) | exact .pure (magL_pure _) | exact .pure (ratE.pure _) | exact .pure (pure_lst u32E _ _) | exact .pure (pure_lst ratE _ _))
    · skip
      have h13r := h13
      try simp only [hce, l1, t0, t1, dflt, val_dig] at h13
      refine st_pure (guardX (v := false) rfl rfl (h13r) rfl) fa27 ?_
      refine st_pure (guardX (v := false) rfl rfl (h13r) rfl) ld3 ?_
      refine st_pure (guardX (v := false) rfl rfl (h13r) rfl) (.bin rfl rfl rfl) ?_
      refine st_pure rfl (.pickF rfl (h13r)) ?_
      refine mv ?_
      refine opsL_split (d := 18) rfl (fun h18 => ?_) (fun h18 => ?_)
      · skip
        have h18r := h18
        try simp only [hce, l1, t0, t1, dflt, val_dig] at h18
        refine st_skip (guardX (v := true) rfl rfl (h18r) rfl) ?_
        refine st_skip (guardX (v := true) rfl rfl (h18r) rfl) ?_
        refine st_skip (guardX (v := true) rfl rfl (h18r) rfl) ?_
        refine st_pure rfl (.pickT rfl (h18r)) ?_
        refine mv ?_
        refine st_skip (guardX (v := true) rfl rfl (rfl) rfl) ?_
        refine st_skip (guardX (v := true) rfl rfl (rfl) rfl) ?_
        refine st_skip (guardX (v := true) rfl rfl (rfl) rfl) ?_
        refine st_skip (guardX (v := true) rfl rfl (rfl) rfl) ?_
        refine st_skip (guardX (v := true) rfl rfl (rfl) rfl) ?_
        refine st_skip (guardX (v := true) rfl rfl (rfl) rfl) ?_
        refine st_skip (guardX (v := true) rfl rfl (rfl) rfl) ?_
        refine st_skip (guardX (v := true) rfl rfl (rfl) rfl) ?_
        refine st_skip (guardX (v := true) rfl rfl (rfl) rfl) ?_
        refine st_skip (guardX (v := true) rfl rfl (rfl) rfl) ?_
        refine st_skip (guardX (v := true) rfl rfl (rfl) rfl) ?_
        refine st_pure rfl (.pickT rfl (rfl)) ?_
        refine st_end nfc_TValid_0 ?_
        refine then_n ?_
        refine wl_condX (b := _) rfl rfl ?_
        refine wl_seq (wl_reg (asg ?_))
        refine st_end nfc_TValid_0 ?_
        refine then_n (wl_ret (then_r ?_))
        rw [show vaT u v c = false from decide_eq_false (by omega)]
        exact ret1 rfl (by first | exact .pure rfl | exact .pure (limL_pure _) | exact .pure (magL_pure _) | exact .pure (ratE.pure _) | exact .pure (pure_lst u32E _ _) | exact .pure (pure_lst ratE _ _))
      · skip
        have h18r := h18
        try simp only [hce, l1, t0, t1, dflt, val_dig] at h18
        refine st_pure (guardX (v := false) rfl rfl (h18r) rfl) fa27 ?_
        refine st_pure (guardX (v := false) rfl rfl (h18r) rfl) ld3 ?_
        refine st_pure (guardX (v := false) rfl rfl (h18r) rfl) (.bin rfl rfl rfl) ?_
        refine st_pure rfl (.pickF rfl (h18r)) ?_
        refine mv ?_
        refine opsL_split (d := 23) rfl (fun h23 => ?_) (fun h23 => ?_)
        · skip
          have h23r := h23
          try simp only [hce, l1, t0, t1, dflt, val_dig] at h23
          refine st_skip (guardX (v := true) rfl rfl (h23r) rfl) ?_
          refine st_skip (guardX (v := true) rfl rfl (h23r) rfl) ?_
          refine st_skip (guardX (v := true) rfl rfl (h23r) rfl) ?_
          refine st_skip (guardX (v := true) rfl rfl (h23r) rfl) ?_
          refine st_skip (guardX (v := true) rfl rfl (h23r) rfl) ?_
          refine st_skip (guardX (v := true) rfl rfl (h23r) rfl) ?_
          refine st_skip (guardX (v := true) rfl rfl (h23r) rfl) ?_
          refine st_skip (guardX (v := true) rfl rfl (h23r) rfl) ?_
          refine st_skip (guardX (v := true) rfl rfl (h23r) rfl) ?_
          refine st_skip (guardX (v := true) rfl rfl (h23r) rfl) ?_
          refine st_skip (guardX (v := true) rfl rfl (h23r) rfl) ?_
          refine st_pure rfl (.pickT rfl (h23r)) ?_
          refine st_end nfc_TValid_0 ?_
          refine then_n ?_
          refine wl_condX (b := _) rfl rfl ?_
          refine wl_seq (wl_reg (asg ?_))
          refine st_end nfc_TValid_0 ?_
          refine then_n (wl_ret (then_r ?_))
          rw [show vaT u v c = false from decide_eq_false (by omega)]
          exact ret1 rfl (by first | exact .pure rfl | exact .pure (limL_pure _) | exact .pure (magL_pure _) | exact .pure (ratE.pure _) | exact .pure (pure_lst u32E _ _) | exact .pure (pure_lst ratE _ _))
        · skip
          have h23r := h23
          try simp only [hce, l1, t0, t1, dflt, val_dig] at h23
          refine st_pure (guardX (v := false) rfl rfl (h23r) rfl) fa27 ?_
          refine st_pure (guardX (v := false) rfl rfl (h23r) rfl) ld25 ?_
          refine st_pure (guardX (v := false) rfl rfl (h23r) rfl) ln25 ?_
          refine st_pure (guardX (v := false) rfl rfl (h23r) rfl) fa27 ?_
          refine st_pure (guardX (v := false) rfl rfl (h23r) rfl) ld3 ?_
          refine st_pure (guardX (v := false) rfl rfl (h23r) rfl) (.bin rfl rfl (add64 (by omega) (by omega))) ?_
          refine st_pure (guardX (v := false) rfl rfl (h23r) rfl) fa27 ?_
          refine st_pure (guardX (v := false) rfl rfl (h23r) rfl) ld3 ?_
          refine st_pure (guardX (v := false) rfl rfl (h23r) rfl) (.bin rfl rfl (add64 (by omega) (by omega))) ?_
          refine st_pure (guardX (v := false) rfl rfl (h23r) rfl) (.bin rfl rfl (mulI (by omega) (by omega) (by omega) (by omega))) ?_
          refine st_pure (guardX (v := false) rfl rfl (h23r) rfl) (.bin rfl rfl rfl) ?_
          refine st_pure rfl (.pickF rfl (h23r)) ?_
          refine st_end nfc_TValid_0 ?_
          refine then_n ?_
          refine wl_cond rfl (fun h35 => ?_) (fun h35 => ?_)
          · skip
            have h35r := h35
            try simp only [hce, l1, t0, t1, dflt, val_dig] at h35
            refine wl_seq (wl_reg (asg ?_))
            refine st_end nfc_TValid_0 ?_
            refine then_n (wl_ret (then_r ?_))
            rw [show vaT u v c = false from decide_eq_false (by omega)]
            exact ret1 rfl (by first | exact .pure rfl | exact .pure (limL_pure _) | exact .pure (magL_pure _) | exact .pure (ratE.pure _) | exact .pure (pure_lst u32E _ _) | exact .pure (pure_lst ratE _ _))
          · skip
            have h35r := h35
            try simp only [hce, l1, t0, t1, dflt, val_dig] at h35
            refine wl_skip (then_n (wl_seq (wl_seq (wl_reg ?_))))
            refine st_pure rfl fa27 ?_
            refine st_pure rfl ld25 ?_
            refine st_pure rfl ln25 ?_
            refine mv ?_
            refine st_end nfc_TValid_0 ?_
            refine then_n (wl_block ?_)
            refine wl_weak (Weak.kill _ 1) ?_
            refine wl_loop (α := Nat) (fun st L => ((((St.mk L.slot (hp [])).put (some 37) (.list 3 (c.map ratL))).put (some 38) (nI64 c.length)).put (some 39) (nI64 st))) (fun st => st ≤ c.length) (fun st => c.length - st) 0 (show (0) ≤ c.length from Nat.zero_le _) ⟨_, Weak.of_eq (put_id' (put_id' (put_id' (mk_id' clc_TValid_1) clc_TValid_1) clc_TValid_1) clc_TValid_1)⟩ ?_
            rintro k L1 hLC
            have hk : k ≤ c.length := hLC
            clear hLC
            show wpL _ _ _ ((((St.mk L1.slot (hp [])).put (some 37) (.list 3 (c.map ratL))).put (some 38) (nI64 c.length)).put (some 39) (nI64 k))
            refine wl_seq (wl_reg ?_)
            refine st_pure rfl (.bin rfl rfl rfl) ?_
            refine st_end nfc_TValid_0 ?_
            refine then_n (wl_seq ?_)
            refine wl_cond rfl (fun h40 => ?_) (fun h40 => ?_)
            · skip
              have h40r := h40
              try simp only [hce, l1, t0, t1, dflt, val_dig] at h40
              have hk2 : k < c.length := by omega
              have hr1 := hcR _ (getD_mem (i := k) hk2)
              refine wl_skip (then_n (wl_seq (wl_block (wl_seq (wl_reg ?_)))))
              refine st_pure rfl ix25 ?_
              refine st_pure rfl ld34 ?_
              refine st_alloc rfl rfl (.alloc Z34a) ?_
              refine st_store rfl sr34 ?_
              refine st_end nfc_TValid_0 ?_
              refine then_n (wl_seq (wl_reg ?_))
              refine st_pure rfl ld34 ?_
              refine st_callP rfl (.cons im0 .nil) (c_RValid (c.getD k 0) (by omega)) ?_
              refine st_pure rfl (.not rfl) ?_
              refine st_end nfc_TValid_0 ?_
              refine then_n ?_
              refine wl_condY (b := _) rfl rfl ?_
              refine wl_skip (blk_n (then_n ?_))
              refine wl_regW (Weak.kill _ 4) ?_
              refine st_pure rfl (.bin rfl rfl (add64 om om)) ?_
              refine mv ?_
              refine st_end nfc_TValid_0 ?_
              refine then_n ?_
              exact ⟨k + 1, _, (show (k + 1) ≤ c.length from by omega), (show c.length - (k + 1) < c.length - k from by omega), Weak.of_eq (put_id' (put_id' (put_id' (mk_id' clc_TValid_1) clc_TValid_1) clc_TValid_1) clc_TValid_1)⟩
            · skip
              have h40r := h40
              try simp only [hce, l1, t0, t1, dflt, val_dig] at h40
              refine wl_exit ?_
              refine then_e (then_e (blk_e (then_n (wl_seq (wl_reg (asg ?_))))))
              refine st_end nfc_TValid_0 ?_
              refine then_n (wl_ret ?_)
              rw [show vaT u v c = true from decide_eq_true ⟨by omega, by omega, by omega, by omega, by omega⟩]
              exact ret1 rfl (by first | exact .pure rfl | exact .pure (limL_pure _) | exact .pure (magL_pure _) | exact .pure (ratE.pure _) | exact .pure (pure_lst u32E _ _) | exact .pure (pure_lst ratE _ _))
theorem nfc_awake7_0 {p : Prop} (h : p := by (try simp only [e1, e2, e3, e4, p1, p2, p3, q1, q2, q3, l1, t0, t1, r1, r2, r3, r4, Nat.zero_add, Nat.reduceMul, Nat.reduceAdd, b1, b2, b3, b4, b5, b6, i1, i2, i3, i4, i5, i6, Nat.reduceBEq, List.length_cons, List.length_nil, half_eq, r1r, tz2, tz1, dfq]); exact rfl) : p := h
namespace H_c_awake7
theorem om {p : Prop} (h : p := by first | (simp only [e1, e2, e3, e4, p1, p2, p3, q1, q2, q3, l1, t0, t1, r1, r2, r3, r4, Nat.zero_add, Nat.reduceMul, Nat.reduceAdd, b1, b2, b3, b4, b5, b6, i1, i2, i3, i4, i5, i6, Nat.reduceBEq, List.length_cons, List.length_nil, half_eq, r1r, tz2, tz1, dfq]; omega) | omega) : p := h
end H_c_awake7
open H_c_awake7 in
set_option maxHeartbeats 4000000 in
set_option maxRecDepth 100000 in
theorem c_awake7  : CallP Try.prog 11 [] (bL true) := by
  have hR1 : ∀ x ∈ ([0, 0, 0, 1] : List Rat), rl x ≤ 1 := by decide +kernel
  have hDU : CallP Try.prog 51 [.agg [nI64 1, nI64 1, .list 3 ([0, 0, 0, 1].map ratL)]] (.agg [nI64 0, nI64 1, .list 3 ([0, 1].map ratL)]) := by
    have := c_DiffU 1 1 [0, 0, 0, 1] rfl (by decide) (fun x hx => Nat.le_trans (hR1 x hx) (by decide)) (by decide)
    rw [a7_df] at this
    exact this
  have hEV := c_TEval 1 1 [0, 0, 0, 1] rfl (by decide) (fun x hx => Nat.le_trans (hR1 x hx) (by decide)) (1 / 2) (1 / 2) (fun j hj => hs_7 _ (fun x hx => sw_rl (by decide) hR1 x (rwL_mem hx)) (by rw [rwL_len (U := 1) (V := 1) (swL_len 1 1 _) hj]; decide)) ⟨5, by decide +kernel, by decide, by decide +kernel⟩
  rw [a7_ev] at hEV
  refine callP_of fol Try.func11 rfl (by decide +kernel) (by decide +kernel) (Nat.le_of_ble_eq_true rfl) tm0 ?_
  refine wl_seq (wl_reg (asg ?_))
  refine st_end nfc_awake7_0 ?_
  refine then_n (wl_seq (wl_reg ?_))
  refine st_pure rfl (.build0 SL34 Z34a) ?_
  refine st_pure rfl (.build0 SL34 Z34a) ?_
  refine st_pure rfl (.build0 SL34 Z34a) ?_
  refine st_callP rfl (.cons im0 .nil) (c_FInt 1 (by decide) (by decide)) ?_
  refine st_alloc rfl rfl (.lit4 ratE Try.underlying25 Z34 T34 rfl rfl rfl rfl (by decide) (by decide)) ?_
  refine st_pure rfl (.build (zs := [.v (.int .i64 0), .v (.int .i64 0), .v (.slice none 0 0)]) SL27 Z27 (by simp only [List.forall_mem_cons]; exact ⟨⟨_, rfl, rfl, ne0⟩, ⟨_, rfl, rfl, ne0⟩, ⟨_, rfl, rfl, ne0⟩, fun _ h => by cases h⟩)) ?_
  refine st_alloc rfl rfl (.alloc Z27) ?_
  refine st_store rfl (.store rfl rfl rfl rfl rfl rfl rfl T27 ne0) ?_
  refine st_end nfc_awake7_0 ?_
  refine then_n (wl_seq (wl_reg ?_))
  refine st_callP rfl (.cons im0 (.cons im0 .nil)) (c_FFrac 1 2 (by decide) (by decide) (by decide) (by decide) (by decide)) ?_
  refine st_alloc rfl rfl (.alloc Z34a) ?_
  refine st_store rfl sr34 ?_
  refine st_end nfc_awake7_0 ?_
  refine then_n (wl_seq (wl_reg ?_))
  refine st_pure rfl ld27 ?_
  refine st_callPf [8] rfl rfl (.cons (.agg (.cons (.pure rfl) (.cons (.pure rfl) (.cons (imm_refm ratE rfl rfl rfl) .nil)))) .nil) hDU ?_
  refine st_alloc rfl rfl (.alloc Z27) ?_
  refine st_store rfl (.store rfl rfl rfl rfl rfl rfl rfl T27 ne0) ?_
  refine st_end nfc_awake7_0 ?_
  refine then_n (wl_seq (wl_reg ?_))
  refine st_pure rfl ld27 ?_
  refine st_callPf [8] rfl rfl (.cons (.agg (.cons (.pure rfl) (.cons (.pure rfl) (.cons (imm_refm ratE rfl rfl rfl) .nil)))) .nil) (c_TValid 1 1 [0, 0, 0, 1] (by decide) (by decide) (by decide) (fun x hx => Nat.le_trans (hR1 x hx) (by decide))) ?_
  refine mv ?_
  refine st_pure (guardX (v := true) rfl rfl (a7_val) rfl) ld27 ?_
  refine st_pure (guardX (v := true) rfl rfl (a7_val) rfl) ld34 ?_
  refine st_pure (guardX (v := true) rfl rfl (a7_val) rfl) ld34 ?_
  refine st_callPf [8] (guardX (v := true) rfl rfl (a7_val) rfl) rfl (.cons (.agg (.cons (.pure rfl) (.cons (.pure rfl) (.cons (imm_refm ratE rfl rfl rfl) .nil)))) (.cons im0 (.cons im0 .nil))) hEV ?_
  refine st_callP (guardX (v := true) rfl rfl (a7_val) rfl) (.cons im0 .nil) (c_tx14) ?_
  refine st_pure (guardX (v := true) rfl rfl (a7_val) rfl) (.eqS rfl rfl) ?_
  refine st_pure rfl (.pickT rfl (a7_val)) ?_
  refine mv ?_
  refine st_pure (guardX (v := true) rfl rfl ((by decide +kernel)) rfl) fa27 ?_
  refine st_pure (guardX (v := true) rfl rfl ((by decide +kernel)) rfl) ld3 ?_
  refine st_pure (guardX (v := true) rfl rfl ((by decide +kernel)) rfl) (.bin rfl rfl rfl) ?_
  refine st_pure rfl (.pickT rfl ((by decide +kernel))) ?_
  refine mv ?_
  refine st_pure (guardX (v := true) rfl rfl ((by decide)) rfl) fa27 ?_
  refine st_pure (guardX (v := true) rfl rfl ((by decide)) rfl) ld3 ?_
  refine st_pure (guardX (v := true) rfl rfl ((by decide)) rfl) (.bin rfl rfl rfl) ?_
  refine st_pure rfl (.pickT rfl ((by decide))) ?_
  refine mv ?_
  refine st_pure (guardX (v := true) rfl rfl ((by decide)) rfl) fa27 ?_
  refine st_pure (guardX (v := true) rfl rfl ((by decide)) rfl) ld25 ?_
  refine st_pure (guardX (v := true) rfl rfl ((by decide)) rfl) ln25 ?_
  refine st_pure (guardX (v := true) rfl rfl ((by decide)) rfl) (.bin rfl rfl rfl) ?_
  refine st_pure rfl (.pickT rfl ((by decide))) ?_
  refine mv ?_
  refine st_pure (guardX (v := true) rfl rfl ((by decide)) rfl) fa27 ?_
  refine st_pure (guardX (v := true) rfl rfl ((by decide)) rfl) ld25 ?_
  refine st_pure (guardX (v := true) rfl rfl ((by decide)) rfl) ix25 ?_
  refine st_pure (guardX (v := true) rfl rfl ((by decide)) rfl) ld34 ?_
  refine st_callP (guardX (v := true) rfl rfl ((by decide)) rfl) (.cons im0 .nil) (c_tx1) ?_
  refine st_pure (guardX (v := true) rfl rfl ((by decide)) rfl) (.eqS rfl rfl) ?_
  refine st_pure rfl (.pickT rfl ((by decide))) ?_
  refine asg ?_
  refine st_end nfc_awake7_0 ?_
  refine then_n (wl_ret ?_)
  exact ret1 (x := .v (.bool true)) (congrArg (fun b => LV.v (.bool b)) (show ((⟨#[49]⟩ : ByteArray).toList == (⟨#[49]⟩ : ByteArray).toList) = true by decide +kernel)) (.pure rfl)
theorem nfc_TensorLong_0 {p : Prop} (h : p := by (try simp only [e1, e2, e3, e4, p1, p2, p3, q1, q2, q3, l1, t0, t1, r1, r2, r3, r4, Nat.zero_add, Nat.reduceMul, Nat.reduceAdd, b1, b2, b3, b4, b5, b6, i1, i2, i3, i4, i5, i6, Nat.reduceBEq, frz_nil, hA, hB, dfq, List.length_replicate, kills_map ratE, ratL_kill, spL_kill, LV.kill, kills]); exact rfl) : p := h
theorem mlc_TensorLong_1 {p : Prop} (h : p := by first | rfl | (simp only [e1, e2, e3, e4, p1, p2, p3, q1, q2, q3, l1, t0, t1, r1, r2, r3, r4, Nat.zero_add, Nat.reduceMul, Nat.reduceAdd, b1, b2, b3, b4, b5, b6, i1, i2, i3, i4, i5, i6, Nat.reduceBEq, frz_nil, hA, hB, dfq, List.length_replicate, kills_map ratE, ratL_kill, spL_kill, LV.kill, kills]; done) | (simp only [e1, e2, e3, e4, p1, p2, p3, q1, q2, q3, l1, t0, t1, r1, r2, r3, r4, Nat.zero_add, Nat.reduceMul, Nat.reduceAdd, b1, b2, b3, b4, b5, b6, i1, i2, i3, i4, i5, i6, Nat.reduceBEq, frz_nil, hA, hB, dfq, List.length_replicate, kills_map ratE, ratL_kill, spL_kill, LV.kill, kills]; rfl) | (simp only [e1, e2, e3, e4, p1, p2, p3, q1, q2, q3, l1, t0, t1, r1, r2, r3, r4, Nat.zero_add, Nat.reduceMul, Nat.reduceAdd, b1, b2, b3, b4, b5, b6, i1, i2, i3, i4, i5, i6, Nat.reduceBEq, frz_nil, hA, hB, dfq, List.length_replicate, kills_map ratE, ratL_kill, spL_kill, LV.kill, kills]; congr 2 <;> omega)) : p := h
theorem clc_TensorLong_2 {p : Prop} (h : p := by first | rfl | (simp only [e1, e2, e3, e4, p1, p2, p3, q1, q2, q3, l1, t0, t1, r1, r2, r3, r4, Nat.zero_add, Nat.reduceMul, Nat.reduceAdd, b1, b2, b3, b4, b5, b6, i1, i2, i3, i4, i5, i6, Nat.reduceBEq, frz_nil, hA, hB, dfq, List.length_replicate, kills_map ratE, ratL_kill, spL_kill, LV.kill, kills]; done) | (simp only [e1, e2, e3, e4, p1, p2, p3, q1, q2, q3, l1, t0, t1, r1, r2, r3, r4, Nat.zero_add, Nat.reduceMul, Nat.reduceAdd, b1, b2, b3, b4, b5, b6, i1, i2, i3, i4, i5, i6, Nat.reduceBEq, frz_nil, hA, hB, dfq, List.length_replicate, kills_map ratE, ratL_kill, spL_kill, LV.kill, kills]; rfl) | (simp only [e1, e2, e3, e4, p1, p2, p3, q1, q2, q3, l1, t0, t1, r1, r2, r3, r4, Nat.zero_add, Nat.reduceMul, Nat.reduceAdd, b1, b2, b3, b4, b5, b6, i1, i2, i3, i4, i5, i6, Nat.reduceBEq, frz_nil, hA, hB, dfq, List.length_replicate, kills_map ratE, ratL_kill, spL_kill, LV.kill, kills]; congr 3 <;> omega) | (simp only [e1, e2, e3, e4, p1, p2, p3, q1, q2, q3, l1, t0, t1, r1, r2, r3, r4, Nat.zero_add, Nat.reduceMul, Nat.reduceAdd, b1, b2, b3, b4, b5, b6, i1, i2, i3, i4, i5, i6, Nat.reduceBEq, frz_nil, hA, hB, dfq, List.length_replicate, kills_map ratE, ratL_kill, spL_kill, LV.kill, kills]; congr 2 <;> omega)) : p := h
namespace H_c_TensorLong
theorem om {p : Prop} (h : p := by first | (simp only [e1, e2, e3, e4, p1, p2, p3, q1, q2, q3, l1, t0, t1, r1, r2, r3, r4, Nat.zero_add, Nat.reduceMul, Nat.reduceAdd, b1, b2, b3, b4, b5, b6, i1, i2, i3, i4, i5, i6, Nat.reduceBEq, frz_nil, hA, hB, dfq, List.length_replicate, kills_map ratE, ratL_kill, spL_kill, LV.kill, kills]; omega) | omega) : p := h
end H_c_TensorLong
open H_c_TensorLong in
set_option maxHeartbeats 4000000 in
set_option maxRecDepth 100000 in
theorem c_TensorLong (m n : Int) (hm : -9223372036854775808 ≤ m ∧ m ≤ 9223372036854775807) (hn : -9223372036854775808 ≤ n ∧ n ≤ 9223372036854775807) : CallP Try.prog 7 [iL m, iL n] (bL true) := by
  have h1 := Int.emod_nonneg m (show (41 : Int) ≠ 0 by decide)
  have h2 := Int.emod_lt_of_pos m (show (0 : Int) < 41 by decide)
  have h3 := Int.emod_nonneg n (show (41 : Int) ≠ 0 by decide)
  have h4 := Int.emod_lt_of_pos n (show (0 : Int) < 41 by decide)
  obtain ⟨A, hA⟩ : ∃ A : Nat, m % 41 = (A : Int) := ⟨(m % 41).toNat, by omega⟩
  obtain ⟨B, hB⟩ : ∃ B : Nat, n % 41 = (B : Int) := ⟨(n % 41).toNat, by omega⟩
  have hMA := c_Mod m 41 (by decide) (by decide)
  have hMB := c_Mod n 41 (by decide) (by decide)
  rw [hA] at hMA
  rw [hB] at hMB
  have hzA : (List.replicate (A + 1) (0 : Rat)).length = (A + 1) * (0 + 1) := by simp
  have hzB : (List.replicate (B + 1) (0 : Rat)).length = (B + 1) * (0 + 1) := by simp
  have hzA2 : (List.replicate (A + 1) (0 : Rat)).length ≤ 1048576 := by rw [List.length_replicate]; omega
  have hzB2 : (List.replicate (B + 1) (0 : Rat)).length ≤ 1048576 := by rw [List.length_replicate]; omega
  have hrA := repl_rl1 (A + 1)
  have hrB := repl_rl1 (B + 1)
  obtain ⟨u1, v1, c1, f1, hf1, hM1⟩ := tm_any A 0 B 0 (List.replicate (A + 1) (0 : Rat)) (List.replicate (B + 1) (0 : Rat)) hzA hzB hzA2 hzB2 hrA hrB
  have hSA := c_Swap A 0 (List.replicate (A + 1) (0 : Rat)) hzA hzA2 (fun x hx => Nat.le_trans (hrA x hx) (by decide))
  have hSB := c_Swap B 0 (List.replicate (B + 1) (0 : Rat)) hzB hzB2 (fun x hx => Nat.le_trans (hrB x hx) (by decide))
  have hwA := swL_len A 0 (List.replicate (A + 1) (0 : Rat))
  have hwB := swL_len B 0 (List.replicate (B + 1) (0 : Rat))
  obtain ⟨u2, v2, c2, f2, hf2, hM2⟩ := tm_any 0 A 0 B (swL A 0 (List.replicate (A + 1) (0 : Rat))) (swL B 0 (List.replicate (B + 1) (0 : Rat))) hwA hwB (by rw [hwA]; omega) (by rw [hwB]; omega) (sw_rl (by decide) hrA) (sw_rl (by decide) hrB)
  have hn1 := net_pureN u1 v1 c1
  have hn2 := net_pureN u2 v2 c2
  have hn3 := net_pureN 0 A (swL A 0 (List.replicate (A + 1) (0 : Rat)))
  have hn4 := net_pureN 0 B (swL B 0 (List.replicate (B + 1) (0 : Rat)))
  refine callP_of fol Try.func7 rfl (by decide +kernel) (by decide +kernel) (Nat.le_of_ble_eq_true rfl) tm0 ?_
  refine wl_seq (wl_reg (asg ?_))
  refine st_end nfc_TensorLong_0 ?_
  refine then_n (wl_seq (wl_reg (mv ?_)))
  refine st_callP rfl (.cons im0 (.cons im0 .nil)) (hMA) ?_
  refine mv ?_
  refine st_callP rfl (.cons im0 (.cons im0 .nil)) (hMB) ?_
  refine asg (asg ?_)
  refine st_end nfc_TensorLong_0 ?_
  refine then_n (wl_seq (wl_reg (mv (mv ?_))))
  refine st_pure rfl (.bin rfl rfl (add1N (by omega))) ?_
  refine st_alloc rfl rfl (.makeM (n := (A + 1)) (m := (A + 1)) ratE Try.underlying25 Z34 T34 B34 mlc_TensorLong_1 mlc_TensorLong_1 om om om) ?_
  refine st_pure rfl (.build (zs := [.v (.int .i64 0), .v (.int .i64 0), .v (.slice none 0 0)]) SL27 Z27 (by simp only [List.forall_mem_cons]; exact ⟨⟨_, rfl, rfl, ne0⟩, ⟨_, rfl, rfl, ne0⟩, fun _ h => by cases h⟩)) ?_
  refine st_alloc rfl rfl (.alloc Z27) ?_
  refine st_store rfl (.store rfl rfl rfl rfl rfl rfl rfl T27 ne0) ?_
  refine st_end nfc_TensorLong_0 ?_
  refine then_n (wl_seq (wl_reg (mv (mv ?_))))
  refine st_pure rfl (.bin rfl rfl (add1N (by omega))) ?_
  refine st_alloc rfl rfl (.makeM (n := (B + 1)) (m := (B + 1)) ratE Try.underlying25 Z34 T34 B34 mlc_TensorLong_1 mlc_TensorLong_1 om om om) ?_
  refine st_pure rfl (.build (zs := [.v (.int .i64 0), .v (.int .i64 0), .v (.slice none 0 0)]) SL27 Z27 (by simp only [List.forall_mem_cons]; exact ⟨⟨_, rfl, rfl, ne0⟩, ⟨_, rfl, rfl, ne0⟩, fun _ h => by cases h⟩)) ?_
  refine st_alloc rfl rfl (.alloc Z27) ?_
  refine st_store rfl (.store rfl rfl rfl rfl rfl rfl rfl T27 ne0) ?_
  refine st_end nfc_TensorLong_0 ?_
  refine then_n (wl_seq (wl_reg ?_))
  refine st_pure rfl ld27 ?_
  refine st_pure rfl ld27 ?_
  refine st_callPf [21, 26] rfl rfl (.cons (.agg (.cons (.pure rfl) (.cons (.pure rfl) (.cons (imm_refm ratE rfl rfl (by simp)) .nil)))) (.cons (.agg (.cons (.pure rfl) (.cons (.pure rfl) (.cons (imm_refm ratE rfl rfl (by simp)) .nil)))) .nil)) hM1 ?_
  refine mv ?_
  refine st_pure rfl (.extract rfl rfl nt0) ?_
  refine st_pure rfl (.extract rfl rfl nt0) ?_
  refine st_alloc rfl rfl (.alloc Z27) ?_
  refine st_store rfl (.store rfl rfl rfl rfl rfl rfl rfl T27 ne0) ?_
  refine asg ?_
  refine st_end nfc_TensorLong_0 ?_
  refine then_n (wl_seq ?_)
  refine wl_regF 9 [7] (by decide +kernel) ?_
  refine st_pure rfl ld27 ?_
  refine st_callPf [21, 26] rfl rfl (.cons (.agg (.cons (.pure rfl) (.cons (.pure rfl) (.cons (imm_refm ratE rfl rfl (by simp)) .nil)))) .nil) hSA ?_
  refine st_pure rfl ld27 ?_
  refine st_callPf [21, 26] rfl rfl (.cons (.agg (.cons (.pure rfl) (.cons (.pure rfl) (.cons (imm_refm ratE rfl rfl (by simp)) .nil)))) .nil) hSB ?_
  refine st_callP rfl (.cons im0 (.cons im0 .nil)) (hM2) ?_
  refine mv ?_
  refine st_pure rfl (.extract rfl rfl nt0) ?_
  refine st_pure rfl (.extract rfl rfl nt0) ?_
  refine st_alloc rfl rfl (.alloc Z27) ?_
  refine st_store rfl (.store rfl rfl rfl rfl rfl rfl rfl T27 ne0) ?_
  refine asg ?_
  refine st_end nfc_TensorLong_0 ?_
  refine then_n (wl_seq ?_)
  refine wl_regW ((((((Weak.kill _ 21).trans (Weak.kill _ 26)).trans (Weak.kill _ 7)).trans (Weak.kill _ 8)).trans (Weak.kill _ 9)).trans (Weak.kill _ 11)) ?_
  refine asg ?_
  refine st_end nfc_TensorLong_0 ?_
  refine then_n (wl_seq (wl_seq (wl_reg (mv (mv ?_)))))
  refine st_pure rfl (.bin rfl rfl (add64N (by omega))) ?_
  refine st_pure rfl (.bin rfl rfl rfl) ?_
  refine st_end nfc_TensorLong_0 ?_
  refine then_n ?_
  refine wl_cut (fun L => ∃ (w : Int) (L1 : St), (w = if 40 < A + B then 2 else 0) ∧ L = (((((St.mk L1.slot (hp [])).put (some 4) (.v (.bool false))).put (some 10) (iL f1)).put (some 12) (iL f2)).put (some 13) (iL w))) ?_ ?_
  · skip
    refine wl_cond rfl (fun h45 => ?_) (fun h45 => ?_)
    · skip
      have h45r := h45
      try simp only [hce, l1, t0, t1, dflt, val_dig] at h45
      refine wl_reg (asg ?_)
      refine st_end nfc_TensorLong_0 ?_
      refine then_n ?_
      exact ⟨2, _, by rw [if_pos (by omega)], ((put_id' (put_id' (put_id' (put_id' (mk_id' clc_TensorLong_2) clc_TensorLong_2) clc_TensorLong_2) clc_TensorLong_2) clc_TensorLong_2)).symm⟩
    · skip
      have h45r := h45
      try simp only [hce, l1, t0, t1, dflt, val_dig] at h45
      refine wl_skip (then_n ?_)
      exact ⟨0, _, by rw [if_neg (by omega)], ((put_id' (put_id' (put_id' (put_id' (mk_id' clc_TensorLong_2) clc_TensorLong_2) clc_TensorLong_2) clc_TensorLong_2) clc_TensorLong_2)).symm⟩
  · skip
    rintro _ ⟨w, LC45, hw, rfl⟩
    refine then_n (wl_seq (wl_reg (mv (mv ?_))))
    refine st_pure rfl (.bin rfl rfl rfl) ?_
    refine mv ?_
    refine st_pure (guardX (v := true) rfl rfl ((by rw [hw]; exact tl_ok (P := True) (Q := True) (by omega))) rfl) (.move _) ?_
    refine st_pure (guardX (v := true) rfl rfl ((by rw [hw]; exact tl_ok (P := True) (Q := True) (by omega))) rfl) (.move _) ?_
    refine st_pure (guardX (v := true) rfl rfl ((by rw [hw]; exact tl_ok (P := True) (Q := True) (by omega))) rfl) (.bin rfl rfl rfl) ?_
    refine st_pure rfl (.pickT rfl ((by rw [hw]; exact tl_ok (P := True) (Q := True) (by omega)))) ?_
    refine mv ?_
    refine st_callP (guardX (v := true) rfl rfl ((by rw [hw]; exact tl_ok (P := True) (Q := True) (by omega))) rfl) .nil (c_awake7) ?_
    refine st_pure rfl (.pickT rfl ((by rw [hw]; exact tl_ok (P := True) (Q := True) (by omega)))) ?_
    refine asg ?_
    refine st_end nfc_TensorLong_0 ?_
    refine then_n (wl_ret ?_)
    exact ret1 rfl (by first | exact .pure rfl | exact .pure (limL_pure _) | exact .pure (magL_pure _) | exact .pure (ratE.pure _) | exact .pure (pure_lst u32E _ _) | exact .pure (pure_lst ratE _ _))
end Go.Proofs.Ythhdcfhaldcheaa
