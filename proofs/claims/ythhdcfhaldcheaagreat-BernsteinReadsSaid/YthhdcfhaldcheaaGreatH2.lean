/- Sums, differences, equality, bounds. -/
import Derived.Test.YthhdcfhaldcheaaGreatH1
set_option linter.unusedVariables false
set_option linter.unusedSimpArgs false
set_option maxHeartbeats 8000000
set_option maxRecDepth 100000
attribute [local irreducible] Go.Lg.opsL Go.Lg.wpL Go.Lg.thenL Go.Lg.blockL
namespace Go.Proofs.YthhdcfhaldcheaaGreat
open Go.Lg
theorem upS_it {n : Nat} (hn : n ≤ 1000) : ∀ (k : Nat) (p : List Rat), 0 < p.length → p.length + k ≤ n + 1 → upS p n → upS (itL k p) n
  | 0, _, _, _, h => h
  | k + 1, p, h0, hk, h => upS_it hn k (lifP p) (by rw [lifP_len]; omega) (by rw [lifP_len]; omega) (upS_step (by omega) h)
theorem upP_rl {p : List Rat} {n : Nat} (hn : n ≤ 1000) (h0 : 0 < p.length) (hl : p.length ≤ n + 1) (h : upS p n) (k : Nat) : rl ((upP p n).getD k 0) ≤ 1073741824 :=
  upS_rl (upS_it hn _ p h0 (by omega) h) k
theorem emx {a b n : Nat} (h : 0 < a) (h1 : a ≤ n + 1) (h2 : b ≤ n + 1) (h3 : a = n + 1 ∨ b = n + 1) : (if ((b : Nat) : Int) > ((a : Nat) : Int) then ((b : Nat) : Int) else ((a : Nat) : Int)) - 1 = (n : Int) := by
  split <;> omega
theorem emn (a : Nat) : (if ((a : Nat) : Int) < ((a : Nat) : Int) then ((a : Nat) : Int) else ((a : Nat) : Int)) = (a : Int) := by split <;> rfl
/-! ### bounds -/
theorem subMx {a b n : Nat} (h : 0 < a) (h1 : a ≤ n + 1) (h2 : b ≤ n + 1) (h3 : a = n + 1 ∨ b = n + 1) (hn : n ≤ 1000) : binI .sub .i64 (if ((b : Nat) : Int) > ((a : Nat) : Int) then ((b : Nat) : Int) else ((a : Nat) : Int)) 1 = some (.int .i64 ((n : Nat) : Int)) := by
  have e := emx h h1 h2 h3
  rw [sub64 (by omega) (by omega), e]
theorem zip_self (a : List Rat) : ((zipG (· - ·) a a).any fun x => sgnR x != 0) = false := by
  rw [List.any_eq_false]
  intro x hx
  obtain ⟨i, _, rfl⟩ := List.mem_map.1 hx
  show ¬ (sgnR (a.getD i 0 - a.getD i 0) != 0) = true
  rw [Rat.sub_self]
  decide
namespace H_c_both
theorem zSm {p q : Prop} (k : q) (e : p = q := by simp only [e1, e2, e3, e4, p1, p2, p3, q1, q2, q3, l1, t0, t1, r1, r2, r3, r4, Nat.zero_add, Nat.reduceMul, Nat.reduceAdd, b1, b2, b3, b4, b5, b6, i1, i2, i3, i4, i5, i6, Nat.reduceBEq, dfq, emx1, elp, elq, emn, kills_map ratE, ratL_kill, spL_kill, LV.kill, kills]; exact rfl) : p := e.mpr k
end H_c_both
open H_c_both in
theorem c_both (p q : List Rat) (f : Nat) (g : Rat → Rat → Rat) (n : Nat) (hp0 : 0 < p.length) (hq0 : 0 < q.length) (hn : n ≤ 1000) (hpn : p.length ≤ n + 1) (hqn : q.length ≤ n + 1) (hpq : p.length = n + 1 ∨ q.length = n + 1) (hps : upS p n) (hqs : upS q n) (hf : ∀ i, CallP Tryz.prog f [ratL ((upP p n).getD i 0), ratL ((upP q n).getD i 0)] (ratL (g ((upP p n).getD i 0) ((upP q n).getD i 0)))) : CallP Tryz.prog 113 [.list 3 (p.map ratL), .list 3 (q.map ratL), .clo f []] (.list 3 ((zipG g (upP p n) (upP q n)).map ratL)) := by
  have emx1 := emx hp0 hpn hqn hpq
  have elp := upP_len hpn
  have elq := upP_len hqn
  have hzl : (zipG g (upP p n) (upP q n)).length = n + 1 := by rw [zipG_len, elp]
  refine fnP Tryz.func113 ?_
  have emx1 : True := trivial
  have elp : True := trivial
  have elq : True := trivial
  have emn : True := trivial
  refine zg12 ?_
  refine st_pure rfl (.bin rfl rfl (subMx hp0 hpn hqn hpq hn)) ?_
  refine zg7 ?_
  refine cp am2 (c_up p n hp0 hn (by omega) hps) ?_
  refine zg2 ?_
  refine cp am2 (c_up q n hq0 hn (by omega) hqs) ?_
  refine zg10 ?_
  try simp only [elp, elq]
  refine zg1 ?_
  refine st_alloc rfl rfl (.mkE (n := (n + 1)) (m := (n + 1)) ml ml om om om) ?_
  refine zg12 ?_
  refine lp2 (fun (i : Nat) (w : List Rat) L => ((((((((St.mk L.slot (hp [(27, ⟨3, w.map ratL, true⟩)])).put (some 0) (.list 3 ((upP p n).map ratL))).put (some 1) (.list 3 ((upP q n).map ratL))).put (some 2) (.clo f [])).put (some 8) (.ref 27 3 0 (n + 1))).put (some 28) (.ref 27 3 0 (n + 1))).put (some 29) (nI64 (n + 1))).put (some 30) (nI64 i))) (fun i w => i ≤ n + 1 ∧ w.length = n + 1 ∧ w.take i = (zipG g (upP p n) (upP q n)).take i) (fun i w => n + 1 - i) 0 (List.replicate (n + 1) 0) ⟨Nat.zero_le _, by simp, rfl⟩ ?_
  rintro i w L1 ⟨hi, hwl, hwt⟩
  refine zg6 ?_
  refine wl_if rfl (fun h31r h31 => ?_) (fun h31r h31 => ?_)
  · have hi2 : i < n + 1 := by omega
    have hfi := hf i
    refine zg10 ?_
    refine wl_regD 13 (by decide +kernel) ?_
    refine zg11 ?_
    try simp only [t1, dfq]
    refine st_opc [] rfl rfl (.clo (f := f) (cap := []) (args := [ratL ((upP p n).getD i 0), ratL ((upP q n).getD i 0)]) rfl (.cons im0 (.cons im0 .nil)) ⟨rfl, fun _ h => by cases h⟩ hfi.1 (by decide) (fun _ h => by cases h)) (hfi.2 _) ?_
    refine zg10 ?_
    exact nx2 (i + 1) (w.set i (g ((upP p n).getD i 0) ((upP q n).getD i 0))) ⟨by omega, by simp [hwl], set_takeR (by omega) (by omega) hwt (by rw [zipG_get (by omega)])⟩
  · obtain rfl : i = n + 1 := by omega
    have hE : w = (zipG g (upP p n) (upP q n)) := by
      rw [List.take_of_length_le (by omega), List.take_of_length_le (by omega)] at hwt
      exact hwt
    subst hE
    refine zg12 ?_
    exact ret1f [27] rfl rfl (imm_refm ratE rfl rfl hzl.symm)
open H0 in
theorem c_BAdd (p q : List Rat) (n : Nat) (hp0 : 0 < p.length) (hq0 : 0 < q.length) (hn : n ≤ 1000) (hpn : p.length ≤ n + 1) (hqn : q.length ≤ n + 1) (hpq : p.length = n + 1 ∨ q.length = n + 1) (hps : upS p n) (hqs : upS q n) : CallP Tryz.prog 34 [.list 3 (p.map ratL), .list 3 (q.map ratL)] (.list 3 ((zipG (· + ·) (upP p n) (upP q n)).map ratL)) := by
  refine fnP Tryz.func34 ?_
  refine zg9 ?_
  refine cp am3 (c_both p q 108 (· + ·) n hp0 hq0 hn hpn hqn hpq hps hqs (fun i => c_RAdd _ _ (by have := upP_rl hn hp0 hpn hps i; have := upP_rl hn hq0 hqn hqs i; omega))) ?_
  refine zg4 ?_
  exact ret1 rfl (by first | exact .pure rfl | exact .pure (limL_pure _) | exact .pure (magL_pure _) | exact .pure (ratE.pure _) | exact .pure (pure_lst u32E _ _) | exact .pure (pure_lst ratE _ _))
open H0 in
theorem c_BSub (p q : List Rat) (n : Nat) (hp0 : 0 < p.length) (hq0 : 0 < q.length) (hn : n ≤ 1000) (hpn : p.length ≤ n + 1) (hqn : q.length ≤ n + 1) (hpq : p.length = n + 1 ∨ q.length = n + 1) (hps : upS p n) (hqs : upS q n) : CallP Tryz.prog 36 [.list 3 (p.map ratL), .list 3 (q.map ratL)] (.list 3 ((zipG (· - ·) (upP p n) (upP q n)).map ratL)) := by
  refine fnP Tryz.func36 ?_
  refine zg9 ?_
  refine cp am3 (c_both p q 114 (· - ·) n hp0 hq0 hn hpn hqn hpq hps hqs (fun i => c_RSub _ _ (by have := upP_rl hn hp0 hpn hps i; have := upP_rl hn hq0 hqn hqs i; omega))) ?_
  refine zg4 ?_
  exact ret1 rfl (by first | exact .pure rfl | exact .pure (limL_pure _) | exact .pure (magL_pure _) | exact .pure (ratE.pure _) | exact .pure (pure_lst u32E _ _) | exact .pure (pure_lst ratE _ _))
open H0 in
theorem c_BZero1 (q : Rat) (h : rl q ≤ 1099511627776) : CallP Tryz.prog 137 [ratL q] (bL (sgnR q != 0)) := by
  refine fnP Tryz.func137 ?_
  refine zg9 ?_
  refine cp am1 (c_RSign _ (by omega)) ?_
  refine zg5 ?_
  exact ret1 rfl (by first | exact .pure rfl | exact .pure (limL_pure _) | exact .pure (magL_pure _) | exact .pure (ratE.pure _) | exact .pure (pure_lst u32E _ _) | exact .pure (pure_lst ratE _ _))
open H0 in
theorem c_BZero (p : List Rat) (hl : p.length ≤ 1048576) (hpr : ∀ x ∈ p, rl x ≤ 1099511627776) : CallP Tryz.prog 69 [.list 3 (p.map ratL)] (bL (!(p.any fun x => sgnR x != 0))) := by
  refine fnP Tryz.func69 ?_
  refine zg8 ?_
  refine cp am2 (c_ContainsFunc p 137 (fun x => sgnR x != 0) hl (fun x hx => c_BZero1 x (hpr x hx))) ?_
  refine zg5 ?_
  exact ret1 rfl (by first | exact .pure rfl | exact .pure (limL_pure _) | exact .pure (magL_pure _) | exact .pure (ratE.pure _) | exact .pure (pure_lst u32E _ _) | exact .pure (pure_lst ratE _ _))
open H0 in
theorem c_BSame (p q : List Rat) (n : Nat) (hp0 : 0 < p.length) (hq0 : 0 < q.length) (hn : n ≤ 1000) (hpn : p.length ≤ n + 1) (hqn : q.length ≤ n + 1) (hpq : p.length = n + 1 ∨ q.length = n + 1) (hps : upS p n) (hqs : upS q n) : CallP Tryz.prog 67 [.list 3 (p.map ratL), .list 3 (q.map ratL)] (bL (!((zipG (· - ·) (upP p n) (upP q n)).any fun x => sgnR x != 0))) := by
  refine fnP Tryz.func67 ?_
  refine zg9 ?_
  refine cp am2 (c_BSub p q n hp0 hq0 hn hpn hqn hpq hps hqs) ?_
  refine cp am1 (c_BZero _ (by rw [zipG_len, upP_len hpn]; omega) (fun x hx => by obtain ⟨i, hi, rfl⟩ := List.mem_map.1 hx; have h1 := upP_rl hn hp0 hpn hps i; have h2 := upP_rl hn hq0 hqn hqs i; have h3 := rl_sub ((upP p n).getD i 0) ((upP q n).getD i 0); show rl ((upP p n).getD i 0 - (upP q n).getD i 0) ≤ 1099511627776; omega)) ?_
  refine zg4 ?_
  exact ret1 rfl (by first | exact .pure rfl | exact .pure (limL_pure _) | exact .pure (magL_pure _) | exact .pure (ratE.pure _) | exact .pure (pure_lst u32E _ _) | exact .pure (pure_lst ratE _ _))
open H0 in
theorem c_Elev (p : List Rat) (n : Nat) (hp0 : 0 < p.length) (hn : n ≤ 40) (hpn : p.length ≤ n + 1) (hps : upS p n) : CallP Tryz.prog 29 [.list 3 (p.map ratL), nI64 n] (.tup [.list 3 ((upP p n).map ratL), iL 0]) := by
  refine fnP Tryz.func29 ?_
  refine zg12 ?_
  refine st_pure rfl (.bin rfl rfl (sub64 (by omega) (by omega))) ?_
  refine zg2 ?_
  refine op_if 11 rfl (fun h11r h11 => ?_) (fun h11r h11 => ?_)
  · refine zg14 ?_
    exfalso
    omega
  · refine zg5 ?_
    refine wl_if rfl (fun h14r h14 => ?_) (fun h14r h14 => ?_)
    · omega
    · refine zg6 ?_
      refine cp am2 (c_up p n hp0 (by omega) (by omega) hps) ?_
      refine zg5 ?_
      exact ret2 rfl (.pure (pure_lst ratE _ _)) rfl (.pure rfl)
end Go.Proofs.YthhdcfhaldcheaaGreat
