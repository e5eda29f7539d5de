/- Which nets are valid; the law TensorLong. -/
import Derived.Test.YthhdcfhaldcheaaGreatT3
import Derived.Test.YthhdcfhaldcheaaGreatL1
set_option linter.unusedVariables false
set_option linter.unusedSimpArgs false
set_option maxHeartbeats 8000000
set_option maxRecDepth 100000
attribute [local irreducible] Go.Lg.opsL Go.Lg.wpL Go.Lg.thenL Go.Lg.blockL
namespace Go.Proofs.YthhdcfhaldcheaaGreat
open Go.Lg
/-! ### the law TensorLong -/
theorem a7_val : vaT 1 1 [0, 0, 0, 1] = true := by decide +kernel
theorem repl_rl1 (n : Nat) : ∀ x ∈ List.replicate n (0 : Rat), rl x ≤ 1 := fun x hx => by rw [(List.mem_replicate.1 hx).2]; exact Nat.le_refl _
theorem tm_any (U1 V1 U2 V2 : Nat) (a b : List Rat) (ha : a.length = (U1 + 1) * (V1 + 1)) (hb : b.length = (U2 + 1) * (V2 + 1)) (hal : a.length ≤ 1048576) (hbl : b.length ≤ 1048576) (haR : ∀ x ∈ a, rl x ≤ 1) (hbR : ∀ x ∈ b, rl x ≤ 1) :
    ∃ (U V : Nat) (c : List Rat) (f : Int), ((f = 0 ∧ U1 + U2 ≤ 40 ∧ V1 + V2 ≤ 40) ∨ (f = 2 ∧ (40 < U1 + U2 ∨ 40 < V1 + V2))) ∧
      CallP Tryz.prog 49 [.agg [nI64 U1, nI64 V1, .list 3 (a.map ratL)], .agg [nI64 U2, nI64 V2, .list 3 (b.map ratL)]] (.tup [.agg [nI64 U, nI64 V, .list 3 (c.map ratL)], iL f]) := by
  have h1 : U1 + 1 ≤ a.length := by rw [ha]; exact Nat.le_mul_of_pos_right _ (Nat.succ_pos V1)
  have h2 : V1 + 1 ≤ a.length := by rw [ha]; exact Nat.le_mul_of_pos_left _ (Nat.succ_pos U1)
  have h3 : U2 + 1 ≤ b.length := by rw [hb]; exact Nat.le_mul_of_pos_right _ (Nat.succ_pos V2)
  have h4 : V2 + 1 ≤ b.length := by rw [hb]; exact Nat.le_mul_of_pos_left _ (Nat.succ_pos U2)
  by_cases h : U1 + U2 ≤ 40 ∧ V1 + V2 ≤ 40
  · exact ⟨_, _, _, 0, .inl ⟨rfl, h.1, h.2⟩, c_TMul U1 V1 U2 V2 a b ha hb hal hbl h.1 h.2 1 (by decide) (by decide) haR hbR⟩
  · exact ⟨0, 0, [], 2, .inr ⟨rfl, by omega⟩, c_TMulErr U1 V1 U2 V2 a b (by omega) (by omega) (by omega) (by omega) (by omega)⟩
theorem tl_ok {A B : Nat} {f : Int} {P Q : Prop} [Decidable P] (h : (f = 0 ∧ A + B ≤ 40) ∨ (f = 2 ∧ 40 < A + B)) : (f == if 40 < A + B then (2 : Int) else 0) = true := by
  rcases h with ⟨rfl, h⟩ | ⟨rfl, h⟩
  · rw [if_neg (by omega)]; rfl
  · rw [if_pos h]; rfl
namespace H_c_TValid
theorem zSm {p q : Prop} (k : q) (e : p = q := by simp only [e1, e2, e3, e4, p1, p2, p3, q1, q2, q3, l1, t0, t1, r1, r2, r3, r4, Nat.zero_add, Nat.reduceMul, Nat.reduceAdd, b1, b2, b3, b4, b5, b6, i1, i2, i3, i4, i5, i6, Nat.reduceBEq, dfq, kills_map ratE, ratL_kill, spL_kill, LV.kill, kills]; exact rfl) : p := e.mpr k
end H_c_TValid
open H_c_TValid in
theorem c_TValid (u v : Int) (c : List Rat) (hu : -9223372036854775808 ≤ u ∧ u ≤ 9223372036854775807) (hv : -9223372036854775808 ≤ v ∧ v ≤ 9223372036854775807) (hl : c.length ≤ 1048576) (hcR : ∀ x ∈ c, rl x ≤ 1099511627776) : CallP Tryz.prog 86 [.agg [iL u, iL v, .list 3 (c.map ratL)]] (bL (vaT u v c)) := by
  refine fnP Tryz.func86 ?_
  refine zg13 ?_
  refine op_if 8 rfl (fun h8r h8 => ?_) (fun h8r h8 => ?_)
  · refine zg37 ?_
    rw [show vaT u v c = false from decide_eq_false (by omega)]
    exact ret1 rfl (by first | exact .pure rfl | exact .pure (limL_pure _) | exact .pure (magL_pure _) | exact .pure (ratE.pure _) | exact .pure (pure_lst u32E _ _) | exact .pure (pure_lst ratE _ _))
  · refine zg5 ?_
    refine op_if 13 rfl (fun h13r h13 => ?_) (fun h13r h13 => ?_)
    · refine zg32 ?_
      rw [show vaT u v c = false from decide_eq_false (by omega)]
      exact ret1 rfl (by first | exact .pure rfl | exact .pure (limL_pure _) | exact .pure (magL_pure _) | exact .pure (ratE.pure _) | exact .pure (pure_lst u32E _ _) | exact .pure (pure_lst ratE _ _))
    · refine zg5 ?_
      refine op_if 18 rfl (fun h18r h18 => ?_) (fun h18r h18 => ?_)
      · refine zg27 ?_
        rw [show vaT u v c = false from decide_eq_false (by omega)]
        exact ret1 rfl (by first | exact .pure rfl | exact .pure (limL_pure _) | exact .pure (magL_pure _) | exact .pure (ratE.pure _) | exact .pure (pure_lst u32E _ _) | exact .pure (pure_lst ratE _ _))
      · refine zg5 ?_
        refine op_if 23 rfl (fun h23r h23 => ?_) (fun h23r h23 => ?_)
        · refine zg22 ?_
          rw [show vaT u v c = false from decide_eq_false (by omega)]
          exact ret1 rfl (by first | exact .pure rfl | exact .pure (limL_pure _) | exact .pure (magL_pure _) | exact .pure (ratE.pure _) | exact .pure (pure_lst u32E _ _) | exact .pure (pure_lst ratE _ _))
        · refine zg5 ?_
          refine st_pure (guardX (v := false) rfl rfl (h23r) rfl) (.bin rfl rfl (add64 (by omega) (by omega))) ?_
          refine zg2 ?_
          refine st_pure (guardX (v := false) rfl rfl (h23r) rfl) (.bin rfl rfl (add64 (by omega) (by omega))) ?_
          refine st_pure (guardX (v := false) rfl rfl (h23r) rfl) (.bin rfl rfl (mulI (by omega) (by omega) (by omega) (by omega))) ?_
          refine zg4 ?_
          refine wl_if rfl (fun h35r h35 => ?_) (fun h35r h35 => ?_)
          · refine zg7 ?_
            rw [show vaT u v c = false from decide_eq_false (by omega)]
            exact ret1 rfl (by first | exact .pure rfl | exact .pure (limL_pure _) | exact .pure (magL_pure _) | exact .pure (ratE.pure _) | exact .pure (pure_lst u32E _ _) | exact .pure (pure_lst ratE _ _))
          · refine zg12 ?_
            refine wl_weak (Weak.kill _ 1) ?_
            refine lp1 (fun (k : Nat) L => ((((St.mk L.slot (hp [])).put (some 37) (.list 3 (c.map ratL))).put (some 38) (nI64 c.length)).put (some 39) (nI64 k))) (fun k => k ≤ c.length) (fun k => c.length - k) 0 (Nat.zero_le _) ?_
            rintro k L1 hk
            refine zg6 ?_
            refine wl_if rfl (fun h40r h40 => ?_) (fun h40r h40 => ?_)
            · have hk2 : k < c.length := by omega
              have hr1 := hcR _ (getD_mem (i := k) hk2)
              refine zg15 ?_
              refine cp am1 (c_RValid (c.getD k 0) (by omega)) ?_
              refine zg7 ?_
              refine wl_regW (Weak.kill _ 4) ?_
              refine zg4 ?_
              exact nx1 (k + 1) (by omega)
            · refine zg11 ?_
              rw [show vaT u v c = true from decide_eq_true ⟨by omega, by omega, by omega, by omega, by omega⟩]
              exact ret1 rfl (by first | exact .pure rfl | exact .pure (limL_pure _) | exact .pure (magL_pure _) | exact .pure (ratE.pure _) | exact .pure (pure_lst u32E _ _) | exact .pure (pure_lst ratE _ _))
namespace H_c_awake7
theorem zSm {p q : Prop} (k : q) (e : p = q := by simp only [e1, e2, e3, e4, p1, p2, p3, q1, q2, q3, l1, t0, t1, r1, r2, r3, r4, Nat.zero_add, Nat.reduceMul, Nat.reduceAdd, b1, b2, b3, b4, b5, b6, i1, i2, i3, i4, i5, i6, Nat.reduceBEq, List.length_cons, List.length_nil, half_eq, r1r, tz2, tz1, dfq]; exact rfl) : p := e.mpr k
end H_c_awake7
open H_c_awake7 in
theorem c_awake7  : CallP Tryz.prog 10 [] (bL true) := by
  have hR1 : ∀ x ∈ ([0, 0, 0, 1] : List Rat), rl x ≤ 1 := by decide +kernel
  have hDU : CallP Tryz.prog 53 [.agg [nI64 1, nI64 1, .list 3 ([0, 0, 0, 1].map ratL)]] (.agg [nI64 0, nI64 1, .list 3 ([0, 1].map ratL)]) := by
    have := c_DiffU 1 1 [0, 0, 0, 1] rfl (by decide) (fun x hx => Nat.le_trans (hR1 x hx) (by decide)) (by decide)
    rw [a7_df] at this
    exact this
  have hEV := c_TEval 1 1 [0, 0, 0, 1] rfl (by decide) (fun x hx => Nat.le_trans (hR1 x hx) (by decide)) (1 / 2) (1 / 2) (fun j hj => hs_7 _ (fun x hx => sw_rl (by decide) hR1 x (rwL_mem hx)) (by rw [rwL_len (U := 1) (V := 1) (swL_len 1 1 _) hj]; decide)) ⟨5, by decide +kernel, by decide, by decide +kernel⟩
  rw [a7_ev] at hEV
  refine fnP Tryz.func10 ?_
  refine zg7 ?_
  refine st_pure rfl (.build0 SL33 Z33a) ?_
  refine st_pure rfl (.build0 SL33 Z33a) ?_
  refine st_pure rfl (.build0 SL33 Z33a) ?_
  refine cp am1 (c_FInt 1 (by decide) (by decide)) ?_
  refine zg8 ?_
  refine cp am2 (c_FFrac 1 2 (by decide) (by decide) (by decide) (by decide) (by decide)) ?_
  refine zg7 ?_
  refine st_callPf [8] rfl rfl (.cons (.agg (.cons (.pure rfl) (.cons (.pure rfl) (.cons (imm_refm ratE rfl rfl rfl) .nil)))) .nil) hDU ?_
  refine zg7 ?_
  refine st_callPf [8] rfl rfl (.cons (.agg (.cons (.pure rfl) (.cons (.pure rfl) (.cons (imm_refm ratE rfl rfl rfl) .nil)))) .nil) (c_TValid 1 1 [0, 0, 0, 1] (by decide) (by decide) (by decide) (fun x hx => Nat.le_trans (hR1 x hx) (by decide))) ?_
  refine zg1 ?_
  refine st_pure (guardX (v := true) rfl rfl (a7_val) rfl) ld27 ?_
  refine st_pure (guardX (v := true) rfl rfl (a7_val) rfl) ld33 ?_
  refine st_pure (guardX (v := true) rfl rfl (a7_val) rfl) ld33 ?_
  refine st_callPf [8] (guardX (v := true) rfl rfl (a7_val) rfl) rfl (.cons (.agg (.cons (.pure rfl) (.cons (.pure rfl) (.cons (imm_refm ratE rfl rfl rfl) .nil)))) (.cons im0 (.cons im0 .nil))) hEV ?_
  refine st_callP (guardX (v := true) rfl rfl (a7_val) rfl) (.cons im0 .nil) (c_tx14) ?_
  refine st_pure (guardX (v := true) rfl rfl (a7_val) rfl) (.eqS rfl rfl) ?_
  refine st_pure rfl (.pickT rfl (a7_val)) ?_
  refine zg1 ?_
  refine st_pure (guardX (v := true) rfl rfl ((by decide +kernel)) rfl) fa27 ?_
  refine st_pure (guardX (v := true) rfl rfl ((by decide +kernel)) rfl) ld3 ?_
  refine st_pure (guardX (v := true) rfl rfl ((by decide +kernel)) rfl) (.bin rfl rfl rfl) ?_
  refine st_pure rfl (.pickT rfl ((by decide +kernel))) ?_
  refine zg1 ?_
  refine st_pure (guardX (v := true) rfl rfl ((by decide)) rfl) fa27 ?_
  refine st_pure (guardX (v := true) rfl rfl ((by decide)) rfl) ld3 ?_
  refine st_pure (guardX (v := true) rfl rfl ((by decide)) rfl) (.bin rfl rfl rfl) ?_
  refine st_pure rfl (.pickT rfl ((by decide))) ?_
  refine zg1 ?_
  refine st_pure (guardX (v := true) rfl rfl ((by decide)) rfl) fa27 ?_
  refine st_pure (guardX (v := true) rfl rfl ((by decide)) rfl) ld25 ?_
  refine st_pure (guardX (v := true) rfl rfl ((by decide)) rfl) ln25 ?_
  refine st_pure (guardX (v := true) rfl rfl ((by decide)) rfl) (.bin rfl rfl rfl) ?_
  refine st_pure rfl (.pickT rfl ((by decide))) ?_
  refine zg1 ?_
  refine st_pure (guardX (v := true) rfl rfl ((by decide)) rfl) fa27 ?_
  refine st_pure (guardX (v := true) rfl rfl ((by decide)) rfl) ld25 ?_
  refine st_pure (guardX (v := true) rfl rfl ((by decide)) rfl) ix25 ?_
  refine st_pure (guardX (v := true) rfl rfl ((by decide)) rfl) ld33 ?_
  refine st_callP (guardX (v := true) rfl rfl ((by decide)) rfl) (.cons im0 .nil) (c_tx1) ?_
  refine st_pure (guardX (v := true) rfl rfl ((by decide)) rfl) (.eqS rfl rfl) ?_
  refine st_pure rfl (.pickT rfl ((by decide))) ?_
  refine zg4 ?_
  exact ret1 (x := .v (.bool true)) (congrArg (fun b => LV.v (.bool b)) (show ((⟨#[49]⟩ : ByteArray).toList == (⟨#[49]⟩ : ByteArray).toList) = true by decide +kernel)) (.pure rfl)
end Go.Proofs.YthhdcfhaldcheaaGreat
