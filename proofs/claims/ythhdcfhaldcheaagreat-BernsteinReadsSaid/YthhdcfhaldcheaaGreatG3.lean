/- The law BernsteinSums. -/
import Derived.Test.YthhdcfhaldcheaaGreatG2
import Derived.Test.YthhdcfhaldcheaaGreatL1
import Derived.Test.YthhdcfhaldcheaaGreatE3
set_option linter.unusedVariables false
set_option linter.unusedSimpArgs false
set_option maxHeartbeats 8000000
set_option maxRecDepth 100000
attribute [local irreducible] Go.Lg.opsL Go.Lg.wpL Go.Lg.thenL Go.Lg.blockL
namespace Go.Proofs.YthhdcfhaldcheaaGreat
open Go.Lg
open H0 in
theorem c_ElevErr (p : List Rat) (n : Int) (hp0 : 0 < p.length) (hl : p.length ≤ 1000) (hn : -9223372036854775808 ≤ n ∧ n ≤ 9223372036854775807) (h : n < (p.length : Int) - 1 ∨ 40 < n) : CallP Tryz.prog 29 [.list 3 (p.map ratL), iL n] (.tup [.list 3 (([] : List Rat).map ratL), iL 7]) := by
  refine fnP Tryz.func29 ?_
  refine zg12 ?_
  refine st_pure rfl (.bin rfl rfl (sub64 (by omega) (by omega))) ?_
  refine zg2 ?_
  refine op_if 11 rfl (fun h11r h11 => ?_) (fun h11r h11 => ?_)
  · refine zg14 ?_
    exact ret2 rfl (.nil 3) rfl (.pure rfl)
  · refine zg5 ?_
    refine wl_if rfl (fun h14r h14 => ?_) (fun h14r h14 => ?_)
    · refine zg8 ?_
      exact ret2 rfl (.nil 3) rfl (.pure rfl)
    · omega
open H0 in
theorem c_FElevErr (p : List Rat) (n : Int) (hp0 : 0 < p.length) (hl : p.length ≤ 1000) (hn : -9223372036854775808 ≤ n ∧ n ≤ 9223372036854775807) (h : n < (p.length : Int) - 1 ∨ 40 < n) : CallP Tryz.prog 30 [.list 3 (p.map ratL), iL n] (.tup [.list 3 (([] : List Rat).map ratL), iL 7]) := by
  refine fnP Tryz.func30 ?_
  refine zg12 ?_
  refine st_pure rfl (.bin rfl rfl (sub64 (by omega) (by omega))) ?_
  refine zg2 ?_
  refine op_if 11 rfl (fun h11r h11 => ?_) (fun h11r h11 => ?_)
  · refine zg14 ?_
    exact ret2 rfl (.nil 3) rfl (.pure rfl)
  · refine zg5 ?_
    refine wl_if rfl (fun h14r h14 => ?_) (fun h14r h14 => ?_)
    · refine zg8 ?_
      exact ret2 rfl (.nil 3) rfl (.pure rfl)
    · omega
open H0 in
theorem c_same5 (p q : List Rat) (hl : p.length ≤ 1048576) (hl2 : q.length ≤ 1048576) (hpr : ∀ x ∈ p, rl x ≤ 137438953472) (hqr : ∀ x ∈ q, rl x ≤ 137438953472) : CallP Tryz.prog 33 [.list 3 (p.map ratL), .list 3 (q.map ratL)] (bL (decide (p = q))) := by
  refine fnP Tryz.func33 ?_
  refine zg9 ?_
  refine cp am2 (c_FSameL p q hl hl2 hpr hqr) ?_
  refine zg4 ?_
  exact ret1 rfl (by first | exact .pure rfl | exact .pure (limL_pure _) | exact .pure (magL_pure _) | exact .pure (ratE.pure _) | exact .pure (pure_lst u32E _ _) | exact .pure (pure_lst ratE _ _))
theorem el_any (p : List Rat) (h1 : ∀ x ∈ p, rl x ≤ 1) (h0 : 0 < p.length) (hl : p.length ≤ 8) (n : Int) (hn : -9223372036854775808 ≤ n ∧ n ≤ 9223372036854775807) : ∃ (A : List Rat) (f : Int), A.length ≤ 41 ∧ (∀ x ∈ A, rl x ≤ 16) ∧
    CallP Tryz.prog 29 [.list 3 (p.map ratL), iL n] (.tup [.list 3 (A.map ratL), iL f]) ∧ CallP Tryz.prog 30 [.list 3 (p.map ratL), iL n] (.tup [.list 3 (A.map ratL), iL f]) := by
  by_cases h : n < (p.length : Int) - 1 ∨ 40 < n
  · exact ⟨[], 7, by decide, fun x hx => (by cases hx), c_ElevErr p n h0 (by omega) hn h, c_FElevErr p n h0 (by omega) hn h⟩
  · obtain ⟨m, rfl⟩ : ∃ m : Nat, n = (m : Int) := ⟨n.toNat, by omega⟩
    have hm : m ≤ 40 := by omega
    have hpm : p.length ≤ m + 1 := by omega
    have hS := upS_cm (n := m) h1 h0 hl hm
    have hL := upP_len hpm
    exact ⟨upP p m, 0, by omega, up_rl14 h1 h0 hl hm _ (by omega), c_Elev p m h0 hm hpm hS, callP_own2 (c_FElev p m h0 hm hpm hS) (pures_map ratE _) (by simp [hL]) rfl⟩
theorem zip_rlS {p q : List Rat} {n : Nat} {g : Rat → Rat → Rat} (hg : ∀ a b, rl (g a b) ≤ rl a + rl b + 1) (hn : n ≤ 1000) (hp0 : 0 < p.length) (hq0 : 0 < q.length) (hpn : p.length ≤ n + 1) (hqn : q.length ≤ n + 1) (hps : upS p n) (hqs : upS q n) : ∀ x ∈ zipG g (upP p n) (upP q n), rl x ≤ 2147483649 := fun x hx => by
  obtain ⟨i, hi, rfl⟩ := List.mem_map.1 hx
  have h1 := upP_rl hn hp0 hpn hps i
  have h2 := upP_rl hn hq0 hqn hqs i
  have h3 := hg ((upP p n).getD i 0) ((upP q n).getD i 0)
  omega
theorem mulP_rlS {p q : List Rat} {R : Nat} (h : p.length - 1 + (q.length - 1) ≤ 40) (hpl : p.length ≤ 41) (hql : q.length ≤ 41) (hR1 : 1 ≤ R) (hR : R ≤ 1048576) (hpR : ∀ x ∈ p, rl x ≤ R) (hqR : ∀ x ∈ q, rl x ≤ R) : ∀ x ∈ mulP p q, rl x ≤ 4000000002 := fun x hx => by
  obtain ⟨k, hk, rfl⟩ := List.mem_map.1 hx
  have hS := allM_rl hpl hql hR1 hpR hqR p.length
  have hbd := mul_bdS (i := p.length) (j := 0) hpl hql (by omega) hR
  have hg1 := getD_rl (by omega) hS k
  have hg2 := getD_rl (S := 2) (by decide) (chR_rl (n := p.length - 1 + (q.length - 1)) h) k
  have h3 := rl_div ((allM p q p.length).getD k 0) ((chR (p.length - 1 + (q.length - 1))).getD k 0)
  omega
namespace H_c_BernsteinSums
theorem zSm {p q : Prop} (k : q) (e : p = q := by simp only [e1, e2, e3, e4, p1, p2, p3, q1, q2, q3, l1, t0, t1, r1, r2, r3, r4, Nat.zero_add, Nat.reduceMul, Nat.reduceAdd, b1, b2, b3, b4, b5, b6, i1, i2, i3, i4, i5, i6, Nat.reduceBEq, dfq, kills_map ratE, ratL_kill, spL_kill, LV.kill, kills, dice_kill]; exact rfl) : p := e.mpr k
end H_c_BernsteinSums
open H_c_BernsteinSums in
theorem c_BernsteinSums (l : List Int) (n r : Int) (hl : l.length ≤ 9223372036854775807 ∧ ∀ n ∈ l, -9223372036854775808 ≤ n ∧ n ≤ 9223372036854775807) (hn : -9223372036854775808 ≤ n ∧ n ≤ 9223372036854775807) (hr : -9223372036854775808 ≤ r ∧ r ≤ 9223372036854775807) : CallP Tryz.prog 4 [.list 1 (l.map i64L), iL n, iL r] (bL true) := by
  have hpl := po_len (l := l) (k := 0) (n := 6) (by decide)
  have hpr := po_rl (l := l) (k := 0) (n := 6)
  have hql := po_len (l := l) (k := poK l 0 6) (n := 6) (by decide)
  have hqr := po_rl (l := l) (k := poK l 0 6) (n := 6)
  have hfr := rtV_rl r 1
  obtain ⟨A, e, hAl, hAr, hE, hF⟩ := el_any (poV l 0 6) hpr (by omega) (by omega) n hn
  have hN : (max (poV l 0 6).length (poV l (poK l 0 6) 6).length - 1) ≤ 40 := by omega
  have hpq : (poV l 0 6).length = (max (poV l 0 6).length (poV l (poK l 0 6) 6).length - 1) + 1 ∨ (poV l (poK l 0 6) 6).length = (max (poV l 0 6).length (poV l (poK l 0 6) 6).length - 1) + 1 := by omega
  have hpn : (poV l 0 6).length ≤ (max (poV l 0 6).length (poV l (poK l 0 6) 6).length - 1) + 1 := by omega
  have hqn : (poV l (poK l 0 6) 6).length ≤ (max (poV l 0 6).length (poV l (poK l 0 6) 6).length - 1) + 1 := by omega
  have hps := upS_cm (n := (max (poV l 0 6).length (poV l (poK l 0 6) 6).length - 1)) hpr (by omega) (by omega) hN
  have hqs := upS_cm (n := (max (poV l 0 6).length (poV l (poK l 0 6) 6).length - 1)) hqr (by omega) (by omega) hN
  have hqs2 : upS (scP (-1) (poV l (poK l 0 6) 6)) (max (poV l 0 6).length (poV l (poK l 0 6) 6).length - 1) := upS_sc (fun k hk x hx => Nat.le_trans (up_rl14 hqr (by omega) (by omega) hN k hk x hx) (by decide)) hqn
  have hBA := c_BAdd (poV l 0 6) (poV l (poK l 0 6) 6) (max (poV l 0 6).length (poV l (poK l 0 6) 6).length - 1) (by omega) (by omega) (by omega) hpn hqn hpq hps hqs
  have hFA := c_FAdd5 (poV l 0 6) (poV l (poK l 0 6) 6) (max (poV l 0 6).length (poV l (poK l 0 6) 6).length - 1) (by omega) (by omega) hN hpn hqn hpq hps hqs
  have hBS := c_BSub (poV l 0 6) (poV l (poK l 0 6) 6) (max (poV l 0 6).length (poV l (poK l 0 6) 6).length - 1) (by omega) (by omega) (by omega) hpn hqn hpq hps hqs
  have hFS := c_FSub5 (poV l 0 6) (poV l (poK l 0 6) 6) (max (poV l 0 6).length (poV l (poK l 0 6) 6).length - 1) (by omega) (by omega) hN hpn hqn hpq hps hqs hqs2
  have hBM := c_BMul (poV l 0 6) (poV l (poK l 0 6) 6) 1 (by omega) (by omega) (by omega) (by decide) (by decide) hpr hqr
  have hFM := c_FMul5 (poV l 0 6) (poV l (poK l 0 6) 6) 1 (by omega) (by omega) (by omega) (by decide) (by decide) hpr hqr
  have hBC := c_BScale (rtV r 1) (poV l 0 6) (by omega) (fun x hx => by have := hpr x hx; omega)
  have hFC := c_FScale (rtV r 1) (poV l 0 6) (by omega) (fun x hx => by have := hpr x hx; omega)
  have hBD := c_Diff (poV l 0 6) (by omega) (fun x hx => Nat.le_trans (hpr x hx) (by decide))
  have hFD := c_FDiff5 (poV l 0 6) (by omega) (by omega) (fun x hx => Nat.le_trans (hpr x hx) (by decide))
  have hz1 := zip_rlS (n := (max (poV l 0 6).length (poV l (poK l 0 6) 6).length - 1)) rl_add (by omega) (by omega) (by omega) hpn hqn hps hqs
  have hz2 := zip_rlS (n := (max (poV l 0 6).length (poV l (poK l 0 6) 6).length - 1)) rl_sub (by omega) (by omega) (by omega) hpn hqn hps hqs
  have hzm := mulP_rlS (p := (poV l 0 6)) (q := (poV l (poK l 0 6) 6)) (R := 1) (by omega) (by omega) (by omega) (by decide) (by decide) hpr hqr
  have hzc := scP_rl (r := (rtV r 1)) (p := (poV l 0 6)) hfr hpr
  have hzd := difP_rl (p := (poV l 0 6)) (R := 1) (by decide) (by omega) hpr
  have h1 : (zipG (· + ·) (upP (poV l 0 6) (max (poV l 0 6).length (poV l (poK l 0 6) 6).length - 1)) (upP (poV l (poK l 0 6) 6) (max (poV l 0 6).length (poV l (poK l 0 6) 6).length - 1))).length = (max (poV l 0 6).length (poV l (poK l 0 6) 6).length - 1) + 1 := by rw [zipG_len, upP_len hpn]
  have h2 : (zipG (· - ·) (upP (poV l 0 6) (max (poV l 0 6).length (poV l (poK l 0 6) 6).length - 1)) (upP (poV l (poK l 0 6) 6) (max (poV l 0 6).length (poV l (poK l 0 6) 6).length - 1))).length = (max (poV l 0 6).length (poV l (poK l 0 6) 6).length - 1) + 1 := by rw [zipG_len, upP_len hpn]
  have h3 := mulP_len (poV l 0 6) (poV l (poK l 0 6) 6)
  have h4 := scP_len (rtV r 1) (poV l 0 6)
  have h5 : (difP (poV l 0 6)).length ≤ 1000 := by rw [difP_len]; split <;> omega
  refine fnP Tryz.func4 ?_
  refine zg9 ?_
  refine cp am1 (c_Light l (by omega)) ?_
  refine zg3 ?_
  refine wl_if rfl (fun h21r h21 => ?_) (fun h21r h21 => ?_)
  · refine zg2 ?_
    refine cp am0 (c_awake5) ?_
    refine zg5 ?_
    exact ret1 rfl (by first | exact .pure rfl | exact .pure (limL_pure _) | exact .pure (magL_pure _) | exact .pure (ratE.pure _) | exact .pure (pure_lst u32E _ _) | exact .pure (pure_lst ratE _ _))
  · have hk1 := poK_le (l := l) (k := 0) (n := 6) (by omega) (by omega)
    refine zg5 ?_
    refine st_call1 [] rfl rfl (.cons im0 .nil) (c_Roll l) (dice_pure l 0) rfl ?_
    refine zg6 ?_
    refine st_callMp 1000385 rfl rfl rfl (dice_pure l _) (.cons .ptr (.cons (.imm (.pure rfl)) .nil)) .ptr (c_Poly l 0 6 (by omega) (by omega) (by decide) (by decide)) rfl (dice_pure l _) (pure_lst ratE _ _) ?_
    refine zg1 ?_
    refine st_callMp 1000385 rfl rfl rfl (dice_pure l _) (.cons .ptr (.cons (.imm (.pure rfl)) .nil)) .ptr (c_Poly l (poK l 0 6) 6 (by omega) (by omega) (by decide) (by decide)) rfl (dice_pure l _) (pure_lst ratE _ _) ?_
    refine zg7 ?_
    refine cp am2 (c_MRat r 1 hr (by decide)) ?_
    refine zg8 ?_
    refine cp am2 (hE) ?_
    refine zg11 ?_
    refine cp am2 (hF) ?_
    refine zg11 ?_
    refine cp am2 (hBM) ?_
    refine zg11 ?_
    refine cp am2 (hFM) ?_
    refine zg8 ?_
    refine wl_regD 55 (by decide +kernel) ?_
    refine zg4 ?_
    refine st_pure (guardX (v := true) rfl rfl ((beq_self_eq_true _)) rfl) (.move _) ?_
    refine st_pure (guardX (v := true) rfl rfl ((beq_self_eq_true _)) rfl) (.move _) ?_
    refine st_callP (guardX (v := true) rfl rfl ((beq_self_eq_true _)) rfl) (.cons im0 (.cons im0 .nil)) (c_same5 A A (by omega) (by omega) (fun x hx => Nat.le_trans (hAr x hx) (by decide)) (fun x hx => Nat.le_trans (hAr x hx) (by decide))) ?_
    refine st_pure rfl (.pickT rfl ((beq_self_eq_true _))) ?_
    refine zg1 ?_
    refine st_pure (guardX (v := true) rfl rfl ((decide_eq_true rfl)) rfl) (.move _) ?_
    refine st_pure (guardX (v := true) rfl rfl ((decide_eq_true rfl)) rfl) (.bin rfl rfl rfl) ?_
    refine st_pure rfl (.pickT rfl ((decide_eq_true rfl))) ?_
    refine zg1 ?_
    refine st_pure (guardX (v := true) rfl rfl ((beq_self_eq_true _)) rfl) (.move _) ?_
    refine st_pure (guardX (v := true) rfl rfl ((beq_self_eq_true _)) rfl) (.move _) ?_
    refine st_callP (guardX (v := true) rfl rfl ((beq_self_eq_true _)) rfl) (.cons im0 (.cons im0 .nil)) (c_same5 (mulP (poV l 0 6) (poV l (poK l 0 6) 6)) (mulP (poV l 0 6) (poV l (poK l 0 6) 6)) (by omega) (by omega) (fun x hx => Nat.le_trans (hzm x hx) (by decide)) (fun x hx => Nat.le_trans (hzm x hx) (by decide))) ?_
    refine st_pure rfl (.pickT rfl ((beq_self_eq_true _))) ?_
    refine zg1 ?_
    refine st_pure (guardX (v := true) rfl rfl ((decide_eq_true rfl)) rfl) (.move _) ?_
    refine st_pure (guardX (v := true) rfl rfl ((decide_eq_true rfl)) rfl) (.move _) ?_
    refine st_callP (guardX (v := true) rfl rfl ((decide_eq_true rfl)) rfl) (.cons im0 (.cons im0 .nil)) (hBA) ?_
    refine st_pure (guardX (v := true) rfl rfl ((decide_eq_true rfl)) rfl) (.move _) ?_
    refine st_pure (guardX (v := true) rfl rfl ((decide_eq_true rfl)) rfl) (.move _) ?_
    refine st_callP (guardX (v := true) rfl rfl ((decide_eq_true rfl)) rfl) (.cons im0 (.cons im0 .nil)) (hFA) ?_
    refine st_callP (guardX (v := true) rfl rfl ((decide_eq_true rfl)) rfl) (.cons im0 (.cons im0 .nil)) (c_same5 (zipG (· + ·) (upP (poV l 0 6) (max (poV l 0 6).length (poV l (poK l 0 6) 6).length - 1)) (upP (poV l (poK l 0 6) 6) (max (poV l 0 6).length (poV l (poK l 0 6) 6).length - 1))) (zipG (· + ·) (upP (poV l 0 6) (max (poV l 0 6).length (poV l (poK l 0 6) 6).length - 1)) (upP (poV l (poK l 0 6) 6) (max (poV l 0 6).length (poV l (poK l 0 6) 6).length - 1))) (by omega) (by omega) (fun x hx => Nat.le_trans (hz1 x hx) (by decide)) (fun x hx => Nat.le_trans (hz1 x hx) (by decide))) ?_
    refine st_pure rfl (.pickT rfl ((decide_eq_true rfl))) ?_
    refine zg1 ?_
    refine st_pure (guardX (v := true) rfl rfl ((decide_eq_true rfl)) rfl) (.move _) ?_
    refine st_pure (guardX (v := true) rfl rfl ((decide_eq_true rfl)) rfl) (.move _) ?_
    refine st_callP (guardX (v := true) rfl rfl ((decide_eq_true rfl)) rfl) (.cons im0 (.cons im0 .nil)) (hBS) ?_
    refine st_pure (guardX (v := true) rfl rfl ((decide_eq_true rfl)) rfl) (.move _) ?_
    refine st_pure (guardX (v := true) rfl rfl ((decide_eq_true rfl)) rfl) (.move _) ?_
    refine st_callP (guardX (v := true) rfl rfl ((decide_eq_true rfl)) rfl) (.cons im0 (.cons im0 .nil)) (hFS) ?_
    refine st_callP (guardX (v := true) rfl rfl ((decide_eq_true rfl)) rfl) (.cons im0 (.cons im0 .nil)) (c_same5 (zipG (· - ·) (upP (poV l 0 6) (max (poV l 0 6).length (poV l (poK l 0 6) 6).length - 1)) (upP (poV l (poK l 0 6) 6) (max (poV l 0 6).length (poV l (poK l 0 6) 6).length - 1))) (zipG (· - ·) (upP (poV l 0 6) (max (poV l 0 6).length (poV l (poK l 0 6) 6).length - 1)) (upP (poV l (poK l 0 6) 6) (max (poV l 0 6).length (poV l (poK l 0 6) 6).length - 1))) (by omega) (by omega) (fun x hx => Nat.le_trans (hz2 x hx) (by decide)) (fun x hx => Nat.le_trans (hz2 x hx) (by decide))) ?_
    refine st_pure rfl (.pickT rfl ((decide_eq_true rfl))) ?_
    refine zg1 ?_
    refine st_pure (guardX (v := true) rfl rfl ((decide_eq_true rfl)) rfl) ld33 ?_
    refine st_pure (guardX (v := true) rfl rfl ((decide_eq_true rfl)) rfl) (.move _) ?_
    refine st_callP (guardX (v := true) rfl rfl ((decide_eq_true rfl)) rfl) (.cons im0 (.cons im0 .nil)) (hBC) ?_
    refine st_pure (guardX (v := true) rfl rfl ((decide_eq_true rfl)) rfl) ld33 ?_
    refine st_pure (guardX (v := true) rfl rfl ((decide_eq_true rfl)) rfl) (.move _) ?_
    refine st_callP (guardX (v := true) rfl rfl ((decide_eq_true rfl)) rfl) (.cons im0 (.cons im0 .nil)) (hFC) ?_
    refine st_callP (guardX (v := true) rfl rfl ((decide_eq_true rfl)) rfl) (.cons im0 (.cons im0 .nil)) (c_same5 (scP (rtV r 1) (poV l 0 6)) (scP (rtV r 1) (poV l 0 6)) (by omega) (by omega) (fun x hx => Nat.le_trans (hzc x hx) (by decide)) (fun x hx => Nat.le_trans (hzc x hx) (by decide))) ?_
    refine st_pure rfl (.pickT rfl ((decide_eq_true rfl))) ?_
    refine zg1 ?_
    refine st_pure (guardX (v := true) rfl rfl ((decide_eq_true rfl)) rfl) (.move _) ?_
    refine st_callP (guardX (v := true) rfl rfl ((decide_eq_true rfl)) rfl) (.cons im0 .nil) (hBD) ?_
    refine st_pure (guardX (v := true) rfl rfl ((decide_eq_true rfl)) rfl) (.move _) ?_
    refine st_callP (guardX (v := true) rfl rfl ((decide_eq_true rfl)) rfl) (.cons im0 .nil) (hFD) ?_
    refine st_callP (guardX (v := true) rfl rfl ((decide_eq_true rfl)) rfl) (.cons im0 (.cons im0 .nil)) (c_same5 (difP (poV l 0 6)) (difP (poV l 0 6)) (by omega) (by omega) (fun x hx => Nat.le_trans (hzd x hx) (by decide)) (fun x hx => Nat.le_trans (hzd x hx) (by decide))) ?_
    refine st_pure rfl (.pickT rfl ((decide_eq_true rfl))) ?_
    refine zg1 ?_
    refine st_callP (guardX (v := true) rfl rfl ((decide_eq_true rfl)) rfl) .nil (c_awake5) ?_
    refine st_pure rfl (.pickT rfl ((decide_eq_true rfl))) ?_
    refine zg4 ?_
    exact ret1 rfl (by first | exact .pure rfl | exact .pure (limL_pure _) | exact .pure (magL_pure _) | exact .pure (ratE.pure _) | exact .pure (pure_lst u32E _ _) | exact .pure (pure_lst ratE _ _))
end Go.Proofs.YthhdcfhaldcheaaGreat
