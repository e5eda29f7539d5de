/- Derivatives. -/
import Derived.Test.YthhdcfhaldcheaaGreatC2
set_option linter.unusedVariables false
set_option linter.unusedSimpArgs false
set_option maxHeartbeats 8000000
set_option maxRecDepth 100000
attribute [local irreducible] Go.Lg.opsL Go.Lg.wpL Go.Lg.thenL Go.Lg.blockL
namespace Go.Proofs.YthhdcfhaldcheaaGreat
open Go.Lg
/-! ### derivatives -/
def difP (p : List Rat) : List Rat := if p.length < 2 then [0] else (List.range (p.length - 1)).map fun i => (((p.length - 1 : Nat) : Int) : Rat) * (p.getD (i + 1) 0 - p.getD i 0)
theorem difP_len {p : List Rat} : (difP p).length = if p.length < 2 then 1 else p.length - 1 := by unfold difP; split <;> simp
theorem difP_get {p : List Rat} {i : Nat} (h : i + 1 < p.length) : (difP p).getD i 0 = (((p.length - 1 : Nat) : Int) : Rat) * (p.getD (i + 1) 0 - p.getD i 0) := by
  unfold difP
  rw [if_neg (by omega), List.getD_eq_getElem?_getD, List.getElem?_eq_getElem (by simp; omega)]; simp
theorem difP_rl {p : List Rat} {R : Nat} (hR : 1 ≤ R) (hl : p.length ≤ 1000) (h : ∀ x ∈ p, rl x ≤ R) : ∀ x ∈ difP p, rl x ≤ 2 * R + 4 := by
  intro x hx
  obtain ⟨k, hk, rfl⟩ := mem_getD hx
  rw [difP_len] at hk
  by_cases h2 : p.length < 2
  · rw [if_pos h2] at hk
    have : difP p = [0] := by unfold difP; rw [if_pos h2]
    rw [this]
    obtain rfl : k = 0 := by omega
    show rl 0 ≤ _
    rw [show rl 0 = 1 from rfl]; omega
  · rw [if_neg h2] at hk
    rw [difP_get (by omega)]
    have h3 := rl_int (n := ((p.length - 1 : Nat) : Int)) (by omega)
    have h4 := h _ (getD_mem (i := k) (by omega))
    have h5 := h _ (getD_mem (i := k + 1) (by omega))
    have h6 := rl_sub (p.getD (k + 1) 0) (p.getD k 0)
    have h7 := rl_mul (((p.length - 1 : Nat) : Int) : Rat) (p.getD (k + 1) 0 - p.getD k 0)
    omega
namespace H_c_Diff
theorem zSm {p q : Prop} (k : q) (e : p = q := by simp only [e1, e2, e3, e4, p1, p2, p3, q1, q2, q3, l1, t0, t1, r1, r2, r3, r4, Nat.zero_add, Nat.reduceMul, Nat.reduceAdd, b1, b2, b3, b4, b5, b6, i1, i2, i3, i4, i5, i6, Nat.reduceBEq, dfq, List.length_set, kills_map ratE, ratL_kill, spL_kill, LV.kill, kills]; exact rfl) : p := e.mpr k
end H_c_Diff
open H_c_Diff in
theorem c_Diff (p : List Rat) (hl : p.length ≤ 1000) (hpr : ∀ x ∈ p, rl x ≤ 1073741824) : CallP Tryz.prog 40 [.list 3 (p.map ratL)] (.list 3 ((difP p).map ratL)) := by
  refine fnP Tryz.func40 ?_
  refine zg13 ?_
  refine wl_if rfl (fun h8r h8 => ?_) (fun h8r h8 => ?_)
  · have hE : difP p = [0] := by unfold difP; rw [if_pos (by omega)]
    refine zg2 ?_
    refine st_pure rfl (.build0 SL33 Z33a) ?_
    refine zg6 ?_
    rw [hE]
    exact ret1f [10] rfl rfl (imm_refm ratE rfl rfl rfl)
  · have hdl : (difP p).length = p.length - 1 := by rw [difP_len, if_neg (by omega)]
    refine zg6 ?_
    refine st_pure rfl (.bin rfl rfl (sub1N (by omega) (by omega))) ?_
    refine cp am1 (c_RInt ((p.length - 1 : Nat) : Int) (by omega) (by omega)) ?_
    refine zg8 ?_
    refine st_pure rfl (.bin rfl rfl (sub1N (by omega) (by omega))) ?_
    refine st_alloc rfl rfl (.mkE (n := (p.length - 1)) (m := (p.length - 1)) ml ml om om om) ?_
    refine zg12 ?_
    refine lp2 (fun (i : Nat) (w : List Rat) L => (((((((St.mk L.slot (hp [(3, ⟨3, [ratL (((p.length - 1 : Nat) : Int) : Rat)], true⟩), (18, ⟨3, w.map ratL, true⟩)])).put (some 0) (.list 3 (p.map ratL))).put (some 3) (.eptr 3 3 0 0)).put (some 4) (.ref 18 3 0 (p.length - 1))).put (some 19) (.ref 18 3 0 (p.length - 1))).put (some 20) (nI64 (p.length - 1))).put (some 21) (nI64 i))) (fun i w => i ≤ p.length - 1 ∧ w.length = p.length - 1 ∧ w.take i = (difP p).take i) (fun i w => p.length - 1 - i) 0 (List.replicate (p.length - 1) 0) ⟨Nat.zero_le _, by simp, rfl⟩ ?_
    rintro i w L1 ⟨hi, hwl, hwt⟩
    refine zg6 ?_
    refine wl_if rfl (fun h22r h22 => ?_) (fun h22r h22 => ?_)
    · have hi2 : i < p.length - 1 := by omega
      have hr1 := hpr _ (getD_mem (i := i) (by omega))
      have hr2 := hpr _ (getD_mem (i := i + 1) (by omega))
      have hr3 := rl_sub (p.getD (i + 1) 0) (p.getD i 0)
      have hr4 := rl_int (n := ((p.length - 1 : Nat) : Int)) (by omega)
      refine zg10 ?_
      refine wl_regD 15 (by decide +kernel) ?_
      refine zg5 ?_
      refine st_pure rfl (.bin rfl rfl (add1N (by omega))) ?_
      refine zg6 ?_
      refine cp am2 (c_RSub (p.getD (i + 1) 0) (p.getD i 0) (by omega)) ?_
      refine cp am2 (c_RMul (((p.length - 1 : Nat) : Int) : Rat) (p.getD (i + 1) 0 - p.getD i 0) (by omega)) ?_
      refine zg10 ?_
      exact nx2 (i + 1) (w.set i ((((p.length - 1 : Nat) : Int) : Rat) * (p.getD (i + 1) 0 - p.getD i 0))) ⟨by omega, by simp [hwl], set_takeR (by omega) (by omega) hwt (difP_get (by omega)).symm⟩
    · obtain rfl : i = p.length - 1 := by omega
      have hE : w = difP p := by
        rw [List.take_of_length_le (by omega), List.take_of_length_le (by omega)] at hwt
        exact hwt
      subst hE
      refine zg12 ?_
      exact ret1f [18] rfl rfl (imm_refm ratE rfl rfl hdl.symm)
end Go.Proofs.YthhdcfhaldcheaaGreat
