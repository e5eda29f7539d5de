/- The law BernsteinEvals. -/
import Derived.Test.YthhdcfhaldcheaaW1
set_option linter.unusedVariables false
set_option linter.unusedSimpArgs false
namespace Go.Proofs.Ythhdcfhaldcheaa
open Go.Lg
/-! ### the law BernsteinEvals: sizes -/
theorem hs_gen2 {p : List Rat} {t : Rat} {R n : Nat} (h1 : ∀ x ∈ p, rl x ≤ R) (h2 : rl t ≤ R) (h3 : p.length ≤ n) (h4 : (3 * R + 8) * 2 ^ n ≤ 1073741824) : HS p t := by
  have h5 := rl_sub 1 t
  rw [show rl 1 = 1 from rfl] at h5
  have hp : 1 ≤ 2 ^ n := Nat.one_le_two_pow
  have h9 := Nat.le_trans (Nat.le_mul_of_pos_right (3 * R + 8) hp) h4
  refine ⟨2 * R + 6, by omega, by omega, fun x hx => ?_⟩
  have h6 := h1 x hx
  exact Nat.le_trans (Nat.mul_le_mul (show rl x + (2 * R + 6) ≤ 3 * R + 8 by omega) (Nat.pow_le_pow_right (by decide) h3)) h4
theorem lo_sz3 {p : List Rat} {t : Rat} {R n : Nat} (h1 : ∀ x ∈ p, rl x ≤ R) (h2 : rl t ≤ R) (h3 : p.length ≤ n) : (∀ x ∈ loP p t, rl x ≤ (3 * R + 8) * 2 ^ n) ∧ ∀ x ∈ hiP p t, rl x ≤ (3 * R + 8) * 2 ^ n := by
  have h5 := rl_sub 1 t
  rw [show rl 1 = 1 from rfl] at h5
  have hs : ∀ x ∈ p, (rl x + (2 * R + 6)) * 2 ^ p.length ≤ (3 * R + 8) * 2 ^ n := fun x hx => by
    have h6 := h1 x hx
    exact Nat.mul_le_mul (by omega) (Nat.pow_le_pow_right (by decide) h3)
  exact ⟨fun x hx => by have := lo_sz (C := 2 * R + 6) (by omega) p.length p rfl hs x hx; omega, fun x hx => by have := hi_sz (C := 2 * R + 6) (by omega) p.length p [] rfl hs (fun y hy => by cases hy) x hx; omega⟩
def PartO (p : List Rat) (a b : Rat) : Prop := (1 - a ≠ 0 → HS p a ∧ HS (hiP p a) ((b - a) / (1 - a))) ∧ (1 - a = 0 → b ≠ 0 → HS p b ∧ HS (loP p b) (1 / b)) ∧ (a = 1 → HS p.reverse 0 ∧ HS (hiP p.reverse 0) ((1 - b - 0) / (1 - 0)))
theorem part_o {p : List Rat} {a b : Rat} (h1 : ∀ x ∈ p, rl x ≤ 1) (ha : rl a ≤ 1) (hb : rl b ≤ 1) (hl : p.length ≤ 9) : PartO p a b := by
  have e1 := rl_sub 1 a
  have e2 := rl_sub b a
  have e3 := rl_div (b - a) (1 - a)
  have e4 := rl_div 1 b
  have e5 := rl_sub 1 b
  have e6 := rl_sub (1 - b) 0
  have e7 := rl_sub 1 0
  have e8 := rl_div (1 - b - 0) (1 - 0)
  rw [show rl 0 = 1 from rfl] at e6 e7
  rw [show rl 1 = 1 from rfl] at e1 e4 e5 e7
  obtain ⟨s1, s2⟩ := lo_sz3 (R := 1) (n := 9) h1 ha hl
  obtain ⟨s3, s4⟩ := lo_sz3 (R := 1) (n := 9) h1 hb hl
  have hr : ∀ x ∈ p.reverse, rl x ≤ 1 := fun x hx => h1 x (List.mem_reverse.1 hx)
  have hrl : p.reverse.length = p.length := List.length_reverse
  refine ⟨fun _ => ⟨hs_gen2 (R := 1) (n := 9) h1 ha hl (by decide), hs_gen2 (R := 5632) (n := 9) s2 (by omega) (by rw [hiP_len]; exact hl) (by decide)⟩, fun _ _ => ⟨hs_gen2 (R := 1) (n := 9) h1 hb hl (by decide), hs_gen2 (R := 5632) (n := 9) s3 (by omega) (by rw [loP_len]; exact hl) (by decide)⟩, fun _ => ⟨?_, ?_⟩⟩
  · exact hs_gen2 (R := 1) (n := 9) hr (Nat.le_refl 1) (by omega) (by decide)
  · rw [hi_zero]
    exact hs_gen2 (R := 20) (n := 9) (fun x hx => Nat.le_trans (hr x hx) (by decide)) (by omega) (by omega) (by decide)
theorem partO_rl {p : List Rat} {a b : Rat} (h : PartO p a b) (hp' : ∀ x ∈ p, rl x ≤ 1) : ∀ x ∈ partB p a b, rl x ≤ 1073741824 := by
  intro x hx
  unfold partB at hx
  split at hx
  · rename_i ha; exact (h.1 ha).2.lo x hx
  · rename_i ha
    split at hx
    · rename_i hb; exact (h.2.1 (Classical.byContradiction ha) hb).2.hi x hx
    · exact Nat.le_trans (hp' x (List.mem_reverse.1 hx)) (by decide)
theorem partB_len' (p : List Rat) (a b : Rat) : (partB p a b).length = p.length := by
  unfold partB
  split
  · rw [loP_len, hiP_len]
  · split
    · rw [hiP_len, loP_len]
    · simp
open H0 in
set_option maxHeartbeats 1000000 in
set_option maxRecDepth 100000 in
theorem c_same5 (p q : List Rat) (hl : p.length ≤ 1048576) (hl2 : q.length ≤ 1048576) (hpr : ∀ x ∈ p, rl x ≤ 1073741824) (hqr : ∀ x ∈ q, rl x ≤ 1073741824) : CallP Try.prog 24 [.list 3 (p.map ratL), .list 3 (q.map ratL)] (bL (decide (p = q))) := by
  refine callP_of fol Try.func24 rfl (by decide +kernel) (by decide +kernel) (Nat.le_of_ble_eq_true rfl) tm0 ?_
  refine wl_seq (wl_reg (asg ?_))
  refine st_end nf0 ?_
  refine then_n (wl_seq (wl_reg (mv (mv ?_))))
  refine st_callP rfl (.cons im0 (.cons im0 .nil)) (c_FSameL p q hl hl2 (fun x hx => Nat.le_trans (hpr x hx) (by decide)) (fun x hx => Nat.le_trans (hqr x hx) (by decide))) ?_
  refine asg ?_
  refine st_end nf0 ?_
  refine then_n (wl_ret ?_)
  exact ret1 rfl (by first | exact .pure rfl | exact .pure (limL_pure _) | exact .pure (magL_pure _) | exact .pure (ratE.pure _) | exact .pure (pure_lst u32E _ _) | exact .pure (pure_lst ratE _ _))
theorem nfc_BernsteinEvals_0 {p : Prop} (h : p := by (try simp only [e1, e2, e3, e4, p1, p2, p3, q1, q2, q3, l1, t0, t1, r1, r2, r3, r4, Nat.zero_add, Nat.reduceMul, Nat.reduceAdd, b1, b2, b3, b4, b5, b6, i1, i2, i3, i4, i5, i6, Nat.reduceBEq, frz_nil, dfq, r1r, kills_map ratE, ratL_kill, spL_kill, LV.kill, kills, dice_kill]); exact rfl) : p := h
namespace H_c_BernsteinEvals
theorem om {p : Prop} (h : p := by first | (simp only [e1, e2, e3, e4, p1, p2, p3, q1, q2, q3, l1, t0, t1, r1, r2, r3, r4, Nat.zero_add, Nat.reduceMul, Nat.reduceAdd, b1, b2, b3, b4, b5, b6, i1, i2, i3, i4, i5, i6, Nat.reduceBEq, frz_nil, dfq, r1r, kills_map ratE, ratL_kill, spL_kill, LV.kill, kills, dice_kill]; omega) | omega) : p := h
end H_c_BernsteinEvals
open H_c_BernsteinEvals in
set_option maxHeartbeats 4000000 in
set_option maxRecDepth 100000 in
theorem c_BernsteinEvals (l : List Int) (i j k : Int) (hl : l.length ≤ 9223372036854775807 ∧ ∀ n ∈ l, -9223372036854775808 ≤ n ∧ n ≤ 9223372036854775807) (hi : -9223372036854775808 ≤ i ∧ i ≤ 9223372036854775807) (hj : -9223372036854775808 ≤ j ∧ j ≤ 9223372036854775807) (hk : -9223372036854775808 ≤ k ∧ k ≤ 9223372036854775807) : CallP Try.prog 4 [.list 1 (l.map i64L), iL i, iL j, iL k] (bL true) := by
  have hpl := po_len (l := l) (k := 0) (n := 8) (by decide)
  have hpr := po_rl (l := l) (k := 0) (n := 8)
  have htr := rtV_rl i j
  have hur := rtV_rl k j
  have hrr : rl 1 = 1 := rfl
  have hS : HS (poV l 0 8) (rtV i j) := hs_of hpr htr (by omega)
  have hlr := hS.lo
  have hhr := hS.hi
  have her := hS.ev
  have hll := loP_len (poV l 0 8) (rtV i j)
  have hhl := hiP_len (poV l 0 8) (rtV i j)
  have hP1 : PartO (poV l 0 8) (rtV i j) (rtV k j) := part_o hpr htr hur (by omega)
  have hP2 : PartO (poV l 0 8) 1 (rtV k j) := part_o hpr (by decide) hur (by omega)
  have hB1 := partO_rl hP1 hpr
  have hB2 := partO_rl hP2 hpr
  have hF1 := hB1
  have hF2 := hB2
  rw [part_eq] at hF1 hF2
  have hL1 := partB_len' (poV l 0 8) (rtV i j) (rtV k j)
  have hL2 := partB_len' (poV l 0 8) 1 (rtV k j)
  have hM1 := hL1
  have hM2 := hL2
  rw [part_eq] at hM1 hM2
  refine callP_of fol Try.func4 rfl (by decide +kernel) (by decide +kernel) (Nat.le_of_ble_eq_true rfl) tm0 ?_
  refine wl_seq (wl_reg (asg ?_))
  refine st_end nfc_BernsteinEvals_0 ?_
  refine then_n (wl_seq (wl_seq (wl_reg (mv ?_))))
  refine st_callP rfl (.cons im0 .nil) (c_Light l (by omega)) ?_
  refine st_pure rfl (.not rfl) ?_
  refine st_end nfc_BernsteinEvals_0 ?_
  refine then_n ?_
  refine wl_cond rfl (fun h18 => ?_) (fun h18 => ?_)
  · skip
    have h18r := h18
    try simp only [hce, l1, t0, t1, dflt, val_dig] at h18
    refine wl_seq (wl_reg ?_)
    refine st_callP rfl .nil (c_awake5) ?_
    refine asg ?_
    refine st_end nfc_BernsteinEvals_0 ?_
    refine then_n (wl_ret (then_r ?_))
    exact ret1 rfl (by first | exact .pure rfl | exact .pure (limL_pure _) | exact .pure (magL_pure _) | exact .pure (ratE.pure _) | exact .pure (pure_lst u32E _ _) | exact .pure (pure_lst ratE _ _))
  · skip
    have h18r := h18
    try simp only [hce, l1, t0, t1, dflt, val_dig] at h18
    refine wl_skip (then_n (wl_seq (wl_reg (mv ?_))))
    refine st_call1 [] rfl rfl (.cons im0 .nil) (c_Roll l) (dice_pure l 0) rfl ?_
    refine st_callMp 1000337 rfl rfl rfl (dice_pure l _) (.cons .ptr (.cons (.imm (.pure rfl)) .nil)) .ptr (c_Poly l 0 8 (by omega) (by omega) (by decide) (by decide)) rfl (dice_pure l _) (pure_lst ratE _ _) ?_
    refine asg ?_
    refine st_end nfc_BernsteinEvals_0 ?_
    refine then_n (wl_seq (wl_reg (mv (mv ?_))))
    refine st_callP rfl (.cons im0 (.cons im0 .nil)) (c_MRat i j hi hj) ?_
    refine mv (mv ?_)
    refine st_callP rfl (.cons im0 (.cons im0 .nil)) (c_MRat k j hk hj) ?_
    refine st_alloc rfl rfl (.alloc Z34a) ?_
    refine st_alloc rfl rfl (.alloc Z34a) ?_
    refine st_store rfl sr34 ?_
    refine st_store rfl sr34 ?_
    refine st_end nfc_BernsteinEvals_0 ?_
    refine then_n (wl_seq (wl_reg (mv ?_)))
    refine st_pure rfl ld34 ?_
    refine st_callP rfl (.cons im0 (.cons im0 .nil)) (c_BSplit (poV l 0 8) (rtV i j) hS) ?_
    refine mv ?_
    refine st_pure rfl (.extract rfl rfl nt0) ?_
    refine st_pure rfl (.extract rfl rfl nt0) ?_
    refine asg (asg ?_)
    refine st_end nfc_BernsteinEvals_0 ?_
    refine then_n (wl_seq (wl_reg (mv ?_)))
    refine st_pure rfl ld34 ?_
    refine st_callP rfl (.cons im0 (.cons im0 .nil)) (c_FSplit (poV l 0 8) (rtV i j) hS) ?_
    refine mv ?_
    refine st_pure rfl (.extract rfl rfl nt0) ?_
    refine st_pure rfl (.extract rfl rfl nt0) ?_
    refine asg (asg ?_)
    refine st_end nfc_BernsteinEvals_0 ?_
    refine then_n (wl_seq ?_)
    refine wl_regD 43 (by decide +kernel) ?_
    refine mv ?_
    refine st_pure rfl ld34 ?_
    refine st_callP rfl (.cons im0 (.cons im0 .nil)) (c_BEval (poV l 0 8) (rtV i j) hS (by omega)) ?_
    refine mv ?_
    refine st_pure rfl ld34 ?_
    refine st_callP rfl (.cons im0 (.cons im0 .nil)) (c_FEval (poV l 0 8) (rtV i j) hS (by omega)) ?_
    refine st_callP rfl (.cons im0 (.cons im0 .nil)) (c_FSame (evP (poV l 0 8) (rtV i j)) (evP (poV l 0 8) (rtV i j)) (by omega)) ?_
    refine mv ?_
    refine st_pure (guardX (v := true) rfl rfl ((decide_eq_true rfl)) rfl) (.move _) ?_
    refine st_pure (guardX (v := true) rfl rfl ((decide_eq_true rfl)) rfl) (.move _) ?_
    refine st_callP (guardX (v := true) rfl rfl ((decide_eq_true rfl)) rfl) (.cons im0 (.cons im0 .nil)) (c_same5 (loP (poV l 0 8) (rtV i j)) (loP (poV l 0 8) (rtV i j)) (by omega) (by omega) hlr hlr) ?_
    refine st_pure rfl (.pickT rfl ((decide_eq_true rfl))) ?_
    refine mv ?_
    refine st_pure (guardX (v := true) rfl rfl ((decide_eq_true rfl)) rfl) (.move _) ?_
    refine st_pure (guardX (v := true) rfl rfl ((decide_eq_true rfl)) rfl) (.move _) ?_
    refine st_callP (guardX (v := true) rfl rfl ((decide_eq_true rfl)) rfl) (.cons im0 (.cons im0 .nil)) (c_same5 (hiP (poV l 0 8) (rtV i j)) (hiP (poV l 0 8) (rtV i j)) (by omega) (by omega) hhr hhr) ?_
    refine st_pure rfl (.pickT rfl ((decide_eq_true rfl))) ?_
    refine mv ?_
    refine st_pure (guardX (v := true) rfl rfl ((decide_eq_true rfl)) rfl) (.move _) ?_
    refine st_pure (guardX (v := true) rfl rfl ((decide_eq_true rfl)) rfl) ld34 ?_
    refine st_pure (guardX (v := true) rfl rfl ((decide_eq_true rfl)) rfl) ld34 ?_
    refine st_callP (guardX (v := true) rfl rfl ((decide_eq_true rfl)) rfl) (.cons im0 (.cons im0 (.cons im0 .nil))) (c_Part (poV l 0 8) (rtV i j) (rtV k j) (by omega) (by omega) (fun x hx => Nat.le_trans (hpr x hx) (by decide)) (by omega) hP1.1 hP1.2.1) ?_
    refine st_pure (guardX (v := true) rfl rfl ((decide_eq_true rfl)) rfl) (.move _) ?_
    refine st_pure (guardX (v := true) rfl rfl ((decide_eq_true rfl)) rfl) ld34 ?_
    refine st_pure (guardX (v := true) rfl rfl ((decide_eq_true rfl)) rfl) ld34 ?_
    refine st_callP (guardX (v := true) rfl rfl ((decide_eq_true rfl)) rfl) (.cons im0 (.cons im0 (.cons im0 .nil))) (c_FPart (poV l 0 8) (rtV i j) (rtV k j) (by omega) (by omega) (fun h => hP1.1 (by grind)) hP1.2.2) ?_
    refine st_callP (guardX (v := true) rfl rfl ((decide_eq_true rfl)) rfl) (.cons im0 (.cons im0 .nil)) (c_same5 (partB (poV l 0 8) (rtV i j) (rtV k j)) (partF (poV l 0 8) (rtV i j) (rtV k j)) (by omega) (by omega) hB1 hF1) ?_
    refine st_pure rfl (.pickT rfl ((decide_eq_true rfl))) ?_
    refine mv ?_
    refine st_pure (guardX (v := true) rfl rfl ((decide_eq_true (part_eq _ _ _))) rfl) (.move _) ?_
    refine st_callP (guardX (v := true) rfl rfl ((decide_eq_true (part_eq _ _ _))) rfl) (.cons im0 .nil) (c_FInt 1 (by decide) (by decide)) ?_
    refine st_pure (guardX (v := true) rfl rfl ((decide_eq_true (part_eq _ _ _))) rfl) ld34 ?_
    refine st_callP (guardX (v := true) rfl rfl ((decide_eq_true (part_eq _ _ _))) rfl) (.cons im0 (.cons im0 (.cons im0 .nil))) (c_Part (poV l 0 8) 1 (rtV k j) (by omega) (by omega) (fun x hx => Nat.le_trans (hpr x hx) (by decide)) (by omega) hP2.1 hP2.2.1) ?_
    refine st_pure (guardX (v := true) rfl rfl ((decide_eq_true (part_eq _ _ _))) rfl) (.move _) ?_
    refine st_callP (guardX (v := true) rfl rfl ((decide_eq_true (part_eq _ _ _))) rfl) (.cons im0 .nil) (c_FInt 1 (by decide) (by decide)) ?_
    refine st_pure (guardX (v := true) rfl rfl ((decide_eq_true (part_eq _ _ _))) rfl) ld34 ?_
    refine st_callP (guardX (v := true) rfl rfl ((decide_eq_true (part_eq _ _ _))) rfl) (.cons im0 (.cons im0 (.cons im0 .nil))) (c_FPart (poV l 0 8) 1 (rtV k j) (by omega) (by omega) (fun h => hP2.1 (by grind)) hP2.2.2) ?_
    refine st_callP (guardX (v := true) rfl rfl ((decide_eq_true (part_eq _ _ _))) rfl) (.cons im0 (.cons im0 .nil)) (c_same5 (partB (poV l 0 8) 1 (rtV k j)) (partF (poV l 0 8) 1 (rtV k j)) (by omega) (by omega) hB2 hF2) ?_
    refine st_pure rfl (.pickT rfl ((decide_eq_true (part_eq _ _ _)))) ?_
    refine mv ?_
    refine st_callP (guardX (v := true) rfl rfl ((decide_eq_true (part_eq _ _ _))) rfl) .nil (c_awake5) ?_
    refine st_pure rfl (.pickT rfl ((decide_eq_true (part_eq _ _ _)))) ?_
    refine asg ?_
    refine st_end nfc_BernsteinEvals_0 ?_
    refine then_n (wl_ret ?_)
    exact ret1 rfl (by first | exact .pure rfl | exact .pure (limL_pure _) | exact .pure (magL_pure _) | exact .pure (ratE.pure _) | exact .pure (pure_lst u32E _ _) | exact .pure (pure_lst ratE _ _))
end Go.Proofs.Ythhdcfhaldcheaa
