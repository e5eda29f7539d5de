/- From powers, products. -/
import Derived.Test.YthhdcfhaldcheaaGreatC1
set_option linter.unusedVariables false
set_option linter.unusedSimpArgs false
set_option maxHeartbeats 8000000
set_option maxRecDepth 100000
attribute [local irreducible] Go.Lg.opsL Go.Lg.wpL Go.Lg.thenL Go.Lg.blockL
namespace Go.Proofs.YthhdcfhaldcheaaGreat
open Go.Lg
theorem add64N {a b : Nat} (h : a + b ≤ 9223372036854775807) : binI .add .i64 (a : Nat) (b : Nat) = some (.int .i64 ((a + b : Nat) : Int)) := by
  rw [add64 (by omega) (by omega)]; congr 2
theorem add1N {a : Nat} (h : a + 1 ≤ 9223372036854775807) : binI .add .i64 (a : Nat) 1 = some (.int .i64 ((a + 1 : Nat) : Int)) := by
  rw [add64 (by omega) (by omega)]; congr 2
theorem set_same {o : List Rat} {i : Nat} {v : Rat} (h : o.getD i 0 = v) : o.set i v = o := by
  apply List.ext_getElem?
  intro x
  rw [List.getElem?_set]
  split
  · rename_i e
    subst e
    split
    · rename_i hi; rw [← h, List.getD_eq_getElem?_getD, List.getElem?_eq_getElem hi]; rfl
    · rename_i hi; rw [List.getElem?_eq_none (by omega)]
  · rfl
theorem set_get_self {o : List Rat} {i : Nat} {v : Rat} (h : i < o.length) : (o.set i v).getD i 0 = v := by rw [set_getD _ _ _ _ h, if_pos rfl]
/-! ### powers to Bernstein form -/
def fpS (c : List Rat) (i : Nat) : Nat → Rat
  | 0 => 0
  | k + 1 => fpS c i k + (chR i).getD k 0 / (chR (c.length - 1)).getD k 0 * c.getD k 0
def fpP (c : List Rat) : List Rat := (List.range c.length).map fun i => fpS c i (i + 1)
theorem fpP_len (c : List Rat) : (fpP c).length = c.length := by simp [fpP]
theorem fpP_get {c : List Rat} {i : Nat} (h : i < c.length) : (fpP c).getD i 0 = fpS c i (i + 1) := by
  rw [List.getD_eq_getElem?_getD, List.getElem?_eq_getElem (by rw [fpP_len]; exact h)]; simp [fpP]
theorem fpS_rl {c : List Rat} {i R : Nat} (hl : c.length ≤ 41) (hi : i < c.length) (hR : ∀ x ∈ c, rl x ≤ R) : ∀ k, k ≤ i + 1 → rl (fpS c i k) ≤ 1 + k * (R + 5)
  | 0, _ => by show rl 0 ≤ _; rw [show rl 0 = 1 from rfl]; omega
  | k + 1, h => by
      have h1 := fpS_rl hl hi hR k (by omega)
      have h2 := chR_rl (n := i) (by omega) _ (getD_mem (i := k) (by rw [chR_len]; omega))
      have h3 := chR_rl (n := c.length - 1) (by omega) _ (getD_mem (i := k) (by rw [chR_len]; omega))
      have h4 := hR _ (getD_mem (p := c) (i := k) (by omega))
      have e1 := rl_div ((chR i).getD k 0) ((chR (c.length - 1)).getD k 0)
      have e2 := rl_mul ((chR i).getD k 0 / (chR (c.length - 1)).getD k 0) (c.getD k 0)
      have e3 := rl_add (fpS c i k) ((chR i).getD k 0 / (chR (c.length - 1)).getD k 0 * c.getD k 0)
      rw [fpS, Nat.succ_mul]; omega
theorem fp_bd {k i R : Nat} (hk : k ≤ i + 1) (hi : i ≤ 40) (hR : R ≤ 67108864) : 1 + k * (R + 5) ≤ 2751463631 := by
  have := Nat.mul_le_mul (show k ≤ 41 by omega) (show R + 5 ≤ 67108869 by omega)
  omega
/-! ### products -/
def rowM (x : Rat) (i : Nat) (y : List Rat) (q : List Rat) (o : List Rat) : Nat → List Rat
  | 0 => o
  | j + 1 => (rowM x i y q o j).set (i + j) ((rowM x i y q o j).getD (i + j) 0 + x * (y.getD j 0 * q.getD j 0))
def allM (p q : List Rat) : Nat → List Rat
  | 0 => List.replicate (p.length - 1 + (q.length - 1) + 1) 0
  | i + 1 => rowM ((chR (p.length - 1)).getD i 0 * p.getD i 0) i (chR (q.length - 1)) q (allM p q i) q.length
def mulP (p q : List Rat) : List Rat := (List.range (p.length - 1 + (q.length - 1) + 1)).map fun k => (allM p q p.length).getD k 0 / (chR (p.length - 1 + (q.length - 1))).getD k 0
theorem rowM_len (x : Rat) (i : Nat) (y q o : List Rat) : ∀ j, (rowM x i y q o j).length = o.length
  | 0 => rfl
  | j + 1 => by simp [rowM, rowM_len x i y q o j]
theorem allM_len (p q : List Rat) : ∀ i, (allM p q i).length = p.length - 1 + (q.length - 1) + 1
  | 0 => by simp [allM]
  | i + 1 => by rw [allM, rowM_len, allM_len p q i]
theorem mulP_len (p q : List Rat) : (mulP p q).length = p.length - 1 + (q.length - 1) + 1 := by simp [mulP]
theorem mulP_get {p q : List Rat} {k : Nat} (h : k < p.length - 1 + (q.length - 1) + 1) : (mulP p q).getD k 0 = (allM p q p.length).getD k 0 / (chR (p.length - 1 + (q.length - 1))).getD k 0 := by
  rw [List.getD_eq_getElem?_getD, List.getElem?_eq_getElem (by rw [mulP_len]; exact h)]; simp [mulP]
theorem rowM_rl {x : Rat} {i R S : Nat} {y q o : List Rat} (hS : 1 ≤ S) (ho : ∀ v ∈ o, rl v ≤ S) (hx : rl x ≤ R + 2) (hy : ∀ v ∈ y, rl v ≤ 2) (hq : ∀ v ∈ q, rl v ≤ R) (hR : 1 ≤ R) : ∀ j, ∀ v ∈ rowM x i y q o j, rl v ≤ S + j * (2 * R + 5)
  | 0, v, hv => by have := ho v hv; omega
  | j + 1, v, hv => by
      have ih := rowM_rl (i := i) hS ho hx hy hq hR j
      refine set_rl (S := S + (j + 1) * (2 * R + 5)) (fun w hw => ?_) ?_ v hv
      · have := ih w hw; rw [Nat.succ_mul]; omega
      · have h1 := getD_rl (by omega) ih (i + j)
        have h2 := getD_rl (by omega) hy j
        have h3 := getD_rl (by omega) hq j
        have e1 := rl_mul (y.getD j 0) (q.getD j 0)
        have e2 := rl_mul x (y.getD j 0 * q.getD j 0)
        have e3 := rl_add ((rowM x i y q o j).getD (i + j) 0) (x * (y.getD j 0 * q.getD j 0))
        rw [Nat.succ_mul]; omega
theorem allM_rl {p q : List Rat} {R : Nat} (hpl : p.length ≤ 41) (hql : q.length ≤ 41) (hR : 1 ≤ R) (hp' : ∀ v ∈ p, rl v ≤ R) (hq' : ∀ v ∈ q, rl v ≤ R) : ∀ i, ∀ v ∈ allM p q i, rl v ≤ 1 + i * (q.length * (2 * R + 5))
  | 0, v, hv => by
      simp only [allM, List.mem_replicate] at hv
      rw [hv.2]; show rl 0 ≤ _; rw [show rl 0 = 1 from rfl]; omega
  | i + 1, v, hv => by
      have ih := allM_rl hpl hql hR hp' hq' i
      have hx : rl ((chR (p.length - 1)).getD i 0 * p.getD i 0) ≤ R + 2 := by
        have h1 := getD_rl (by omega) (chR_rl (n := p.length - 1) (by omega)) i
        have h2 := getD_rl hR hp' i
        have := rl_mul ((chR (p.length - 1)).getD i 0) (p.getD i 0)
        omega
      have := rowM_rl (by omega) ih hx (chR_rl (n := q.length - 1) (by omega)) hq' hR q.length v hv
      rw [Nat.succ_mul]; omega
theorem mul_bd {i j l R : Nat} (hi : i ≤ 41) (hl : l ≤ 41) (hj : j ≤ l) (hR : R ≤ 67108864) : 1 + i * (l * (2 * R + 5)) + j * (2 * R + 5) ≤ 231122948107 := by
  have h1 := Nat.mul_le_mul hl (show 2 * R + 5 ≤ 134217733 by omega)
  have h2 := Nat.mul_le_mul hi h1
  have h3 := Nat.mul_le_mul (show j ≤ 41 by omega) (show 2 * R + 5 ≤ 134217733 by omega)
  omega
theorem repl_get (n x : Nat) : (List.replicate n (0 : Rat)).getD x 0 = 0 := by
  rw [List.getD_eq_getElem?_getD, List.getElem?_replicate]; split <;> rfl
open H0 in
theorem c_FPErr (c : List Rat) (hl : c.length ≤ 1048576) (h : c.length = 0 ∨ 41 < c.length) : CallP Tryz.prog 56 [.list 3 (c.map ratL)] (.tup [.list 3 (([] : List Rat).map ratL), iL 2]) := by
  refine fnP Tryz.func56 ?_
  refine zg13 ?_
  refine op_if 12 rfl (fun h12r h12 => ?_) (fun h12r h12 => ?_)
  · refine zg15 ?_
    exact ret2 rfl (.nil 3) rfl (.pure rfl)
  · refine zg6 ?_
    refine wl_if rfl (fun h16r h16 => ?_) (fun h16r h16 => ?_)
    · refine zg8 ?_
      exact ret2 rfl (.nil 3) rfl (.pure rfl)
    · omega
namespace H_c_FP
theorem zSm {p q : Prop} (k : q) (e : p = q := by simp only [e1, e2, e3, e4, p1, p2, p3, q1, q2, q3, l1, t0, t1, r1, r2, r3, r4, Nat.zero_add, Nat.reduceMul, Nat.reduceAdd, b1, b2, b3, b4, b5, b6, i1, i2, i3, i4, i5, i6, Nat.reduceBEq, dfq, List.set_set, List.length_set, chR_len, egs, ezs, kills_map ratE, ratL_kill, LV.kill, kills]; exact rfl) : p := e.mpr k
end H_c_FP
open H_c_FP in
theorem c_FP (c : List Rat) (R : Nat) (hl0 : 0 < c.length) (hl : c.length ≤ 41) (hR : R ≤ 67108864) (hcR : ∀ x ∈ c, rl x ≤ R) : CallP Tryz.prog 56 [.list 3 (c.map ratL)] (.tup [.list 3 ((fpP c).map ratL), iL 0]) := by
  refine fnP Tryz.func56 ?_
  have egs : True := trivial
  have ezs : True := trivial
  refine zg13 ?_
  refine op_if 12 rfl (fun h12r h12 => ?_) (fun h12r h12 => ?_)
  · exfalso
    omega
  · refine zg6 ?_
    refine wl_if rfl (fun h16r h16 => ?_) (fun h16r h16 => ?_)
    · omega
    · refine zg6 ?_
      refine st_pure rfl (.bin rfl rfl (sub1N (by omega) (by omega))) ?_
      refine cp am1 (c_choose _ (by omega)) ?_
      refine zg7 ?_
      refine st_alloc rfl rfl (.mkE (n := c.length) (m := c.length) ml ml om om om) ?_
      refine zg12 ?_
      refine lp2 (fun (i : Nat) (w : List Rat) L => (((((((St.mk L.slot (hp [(23, ⟨3, w.map ratL, true⟩)])).put (some 0) (.list 3 (c.map ratL))).put (some 4) (.list 3 ((chR (c.length - 1)).map ratL))).put (some 5) (.ref 23 3 0 c.length)).put (some 24) (.ref 23 3 0 c.length)).put (some 25) (nI64 c.length)).put (some 26) (nI64 i))) (fun i w => i ≤ c.length ∧ w.length = c.length ∧ w.take i = (fpP c).take i ∧ ∀ x, i ≤ x → w.getD x 0 = 0) (fun i w => c.length - i) 0 (List.replicate c.length 0) ⟨Nat.zero_le _, by simp, rfl, fun x _ => repl_get _ _⟩ ?_
      rintro i w L1 ⟨hi, hwl, hwt, hz⟩
      refine zg6 ?_
      refine wl_if rfl (fun h27r h27 => ?_) (fun h27r h27 => ?_)
      · refine zg13 ?_
        refine cp am1 (c_choose _ (by omega)) ?_
        refine zg5 ?_
        have ezs : w.set i (fpS c i 0) = w := set_same (hz i (Nat.le_refl _))
        refine lp1 (fun (k : Nat) L => (((((((((((St.mk L.slot (hp [(23, ⟨3, (w.set i (fpS c i k)).map ratL, true⟩)])).put (some 0) (.list 3 (c.map ratL))).put (some 4) (.list 3 ((chR (c.length - 1)).map ratL))).put (some 5) (.ref 23 3 0 c.length)).put (some 24) (.ref 23 3 0 c.length)).put (some 25) (nI64 c.length)).put (some 26) (nI64 i)).put (some 6) (nI64 i)).put (some 30) (.list 3 ((chR i).map ratL))).put (some 31) (nI64 (i + 1))).put (some 32) (nI64 k))) (fun k => k ≤ i + 1) (fun k => i + 1 - k) 0 (Nat.zero_le _) ?_
        rintro k L2 hk
        refine zg6 ?_
        refine wl_if rfl (fun h33r h33 => ?_) (fun h33r h33 => ?_)
        · have egs : (w.set i (fpS c i k)).getD i 0 = fpS c i k := set_get_self (by omega)
          have hb1 := fpS_rl hl (by omega) hcR k hk
          have hb2 := fp_bd hk (by omega) hR
          have hb3 := chR_rl (n := i) (by omega) _ (getD_mem (i := k) (by rw [chR_len]; omega))
          have hb4 := chR_rl (n := c.length - 1) (by omega) _ (getD_mem (i := k) (by rw [chR_len]; omega))
          have hb5 := hcR _ (getD_mem (i := k) (by omega))
          have hb6 := rl_div ((chR i).getD k 0) ((chR (c.length - 1)).getD k 0)
          have hb7 := rl_mul ((chR i).getD k 0 / (chR (c.length - 1)).getD k 0) (c.getD k 0)
          refine zg14 ?_
          refine wl_regD 19 (by decide +kernel) ?_
          refine zg11 ?_
          simp only [t1, dfq, Nat.zero_add]
          refine cp am2 (c_quo _ _ (by omega)) ?_
          refine zg4 ?_
          simp only [t1, dfq, Nat.zero_add]
          refine cp am2 (c_RMul _ _ (by omega)) ?_
          simp only [t1, dfq, Nat.zero_add, egs]
          refine cp am2 (c_RAdd _ _ (by omega)) ?_
          refine zg5 ?_
          refine wl_regW (Weak.kill _ 8) ?_
          refine zg4 ?_
          exact nx1 (k + 1) (by omega)
        · obtain rfl : k = i + 1 := by omega
          refine zg11 ?_
          exact nx2 (i + 1) (w.set i (fpS c i (i + 1))) ⟨by omega, by simp [hwl], set_takeR (by rw [fpP_len]; omega) (by rw [fpP_len, hwl]) hwt (fpP_get (by omega)).symm, fun x hx => by rw [set_getD _ _ _ _ (by omega), if_neg (by omega)]; exact hz x (by omega)⟩
      · obtain rfl : i = c.length := by omega
        have hE : w = fpP c := by
          rw [List.take_of_length_le (by omega), List.take_of_length_le (by rw [fpP_len]; omega)] at hwt
          exact hwt
        refine zg13 ?_
        rw [← hE]
        exact ret2f [23] rfl rfl (imm_refm ratE rfl rfl (by omega)) rfl (.pure rfl)
end Go.Proofs.YthhdcfhaldcheaaGreat
