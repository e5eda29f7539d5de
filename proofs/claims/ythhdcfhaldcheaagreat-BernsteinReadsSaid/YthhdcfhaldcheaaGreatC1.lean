/- Binomial coefficients, products. -/
import Derived.Test.YthhdcfhaldcheaaGreatL1
set_option linter.unusedVariables false
set_option linter.unusedSimpArgs false
set_option maxHeartbeats 8000000
set_option maxRecDepth 100000
attribute [local irreducible] Go.Lg.opsL Go.Lg.wpL Go.Lg.thenL Go.Lg.blockL
namespace Go.Proofs.YthhdcfhaldcheaaGreat
open Go.Lg
/-! ### binomials -/
def chs : Nat → Nat → Nat
  | _, 0 => 1
  | 0, _ + 1 => 0
  | n + 1, k + 1 => chs n k + chs n (k + 1)
theorem chs_gt : ∀ {n k : Nat}, n < k → chs n k = 0
  | 0, k + 1, _ => rfl
  | n + 1, k + 1, h => by rw [chs, chs_gt (by omega), chs_gt (by omega)]
theorem chs_self : ∀ n, chs n n = 1
  | 0 => rfl
  | n + 1 => by rw [chs, chs_self n, chs_gt (by omega)]
theorem chs_zero (n : Nat) : chs n 0 = 1 := by cases n <;> rfl
theorem chs_le : ∀ n k, chs n k ≤ 2 ^ n
  | n, 0 => by rw [chs_zero]; exact Nat.pow_pos (by omega)
  | 0, k + 1 => by simp [chs]
  | n + 1, k + 1 => by
      have h1 := chs_le n k
      have h2 := chs_le n (k + 1)
      rw [chs, Nat.pow_succ]; omega
theorem chs_pos : ∀ {n k : Nat}, k ≤ n → 0 < chs n k
  | n, 0, _ => by rw [chs_zero]; omega
  | n + 1, k + 1, h => by have := chs_pos (n := n) (k := k) (by omega); rw [chs]; omega
theorem chs_40 {n : Nat} (k : Nat) (h : n ≤ 40) : chs n k ≤ 1099511627776 := Nat.le_trans (chs_le n k) (Nat.pow_le_pow_right (n := 2) (by omega) h)
def rowI (n : Nat) : List Int := (List.range (n + 1)).map fun x => (chs n x : Int)
def chR (n : Nat) : List Rat := (List.range (n + 1)).map fun x => ((chs n x : Int) : Rat)
theorem rowI_len (n : Nat) : (rowI n).length = n + 1 := by simp [rowI]
theorem chR_len (n : Nat) : (chR n).length = n + 1 := by simp [chR]
theorem rowI_get {n x : Nat} (h : x ≤ n) : (rowI n).getD x 0 = (chs n x : Int) := by
  rw [List.getD_eq_getElem?_getD, List.getElem?_eq_getElem (by rw [rowI_len]; omega)]; simp [rowI]
theorem chR_get {n x : Nat} (h : x ≤ n) : (chR n).getD x 0 = ((chs n x : Int) : Rat) := by
  rw [List.getD_eq_getElem?_getD, List.getElem?_eq_getElem (by rw [chR_len]; omega)]; simp [chR]
theorem extI {p q : List Int} (hl : p.length = q.length) (h : ∀ i, i < p.length → p.getD i 0 = q.getD i 0) : p = q := by
  apply List.ext_getElem hl
  intro i h1 h2
  have := h i h1
  rw [List.getD_eq_getElem?_getD, List.getD_eq_getElem?_getD, List.getElem?_eq_getElem h1, List.getElem?_eq_getElem h2] at this
  exact this
theorem set_getI (o : List Int) (i x : Nat) (v : Int) (hi : i < o.length) : (o.set i v).getD x 0 = if x = i then v else o.getD x 0 := by
  rw [List.getD_eq_getElem?_getD, List.getD_eq_getElem?_getD, List.getElem?_set]
  by_cases h : i = x
  · subst h; simp [hi]
  · rw [if_neg h, if_neg (fun e => h e.symm)]
/-- the row in the middle of a step -/
def PasC (k i : Nat) (o : List Int) : Prop := o.length = k + 2 ∧ ∀ x, x < k + 2 → o.getD x 0 = if i < x ∧ x ≤ k then (chs (k + 1) x : Int) else if x ≤ k then (chs k x : Int) else 1
theorem pas_init (k : Nat) : PasC k k (rowI k ++ [1]) := by
  refine ⟨by simp [rowI_len], fun x hx => ?_⟩
  rw [if_neg (by omega)]
  by_cases h : x ≤ k
  · rw [if_pos h, getD_app1 _ _ _ (by rw [rowI_len]; omega), rowI_get h]
  · rw [if_neg h, getD_app2 _ _ _ (by rw [rowI_len]; omega), rowI_len, show x - (k + 1) = 0 by omega]; rfl
theorem pas_step {k i : Nat} {o : List Int} (h : PasC k (i + 1) o) (hi : i + 1 ≤ k) : PasC k i (o.set (i + 1) (o.getD (i + 1) 0 + o.getD i 0)) := by
  obtain ⟨h1, h2⟩ := h
  refine ⟨by simp [h1], fun x hx => ?_⟩
  rw [set_getI _ _ _ _ (by omega)]
  by_cases hxi : x = i + 1
  · subst hxi
    rw [if_pos rfl, if_pos ⟨by omega, hi⟩, h2 _ (by omega), h2 _ (by omega), if_neg (by omega), if_pos (by omega), if_neg (by omega), if_pos (by omega), chs]
    simp; omega
  · rw [if_neg hxi, h2 x hx]
    by_cases h3 : i + 1 < x ∧ x ≤ k
    · rw [if_pos h3, if_pos ⟨by omega, h3.2⟩]
    · rw [if_neg h3, if_neg (show ¬ (i < x ∧ x ≤ k) by omega)]
theorem pas_end {k : Nat} {o : List Int} (h : PasC k 0 o) : o = rowI (k + 1) := by
  obtain ⟨h1, h2⟩ := h
  refine extI (by rw [rowI_len, h1]) (fun x hx => ?_)
  rw [h2 x (by omega), rowI_get (by omega)]
  by_cases h3 : 0 < x ∧ x ≤ k
  · rw [if_pos h3]
  · rw [if_neg h3]
    by_cases h4 : x ≤ k
    · obtain rfl : x = 0 := by omega
      rw [if_pos h4, chs_zero, chs_zero]
    · obtain rfl : x = k + 1 := by omega
      rw [if_neg h4, chs_self]; rfl
theorem pas_bd {k i : Nat} {o : List Int} (h : PasC k i o) (hk : k ≤ 39) {x : Nat} (hx : x < k + 2) : 0 ≤ o.getD x 0 ∧ o.getD x 0 ≤ 1099511627776 := by
  rw [h.2 x hx]
  have h1 := chs_40 (n := k + 1) x (by omega)
  have h2 := chs_40 (n := k) x (by omega)
  split
  · omega
  · split <;> omega
theorem chR_rl {n : Nat} (hn : n ≤ 40) : ∀ x ∈ chR n, rl x ≤ 2 := by
  intro x hx
  simp only [chR, List.mem_map] at hx
  obtain ⟨k, _, rfl⟩ := hx
  have h := chs_40 k hn
  rw [← qv_int]
  have := rl_qv (k := 2) (decide ((chs n k : Int) < 0)) (n := (chs n k : Int).natAbs) (d := 1) (by omega) (by decide)
  omega
theorem set_takeR {o p : List Rat} {k : Nat} {v : Rat} (hk : k < p.length) (hol : o.length = p.length) (ht : o.take k = p.take k) (hv : v = p.getD k 0) : (o.set k v).take (k + 1) = p.take (k + 1) := by subst hv; exact cp_take hk hol ht
theorem rtake (n : Nat) (f : Int → LV) : ((rowI n).map f).take (n + 1) = (rowI n).map f := by rw [List.take_of_length_le (by simp [rowI_len])]

theorem ge_zero {p : List Rat} {k : Nat} (h : p.length ≤ k) : p.getD k 0 = 0 := by
  rw [List.getD_eq_getElem?_getD, List.getElem?_eq_none h]; rfl
theorem ext0 {a b : List Rat} (h : a.length = b.length) (h2 : ∀ k, k < a.length → a.getD k 0 = b.getD k 0) : a = b := by
  refine List.ext_getElem h fun k h1 h3 => ?_
  have := h2 k h1
  rw [List.getD_eq_getElem?_getD, List.getD_eq_getElem?_getD, List.getElem?_eq_getElem h1, List.getElem?_eq_getElem h3] at this
  exact this
theorem set_get0 (o : List Rat) (i : Nat) (v : Rat) (k : Nat) (h : i < o.length) : (o.set i v).getD k 0 = if i = k then v else o.getD k 0 := by
  rw [List.getD_eq_getElem?_getD, List.getD_eq_getElem?_getD, List.getElem?_set]
  split
  · rename_i e; subst e; first | rw [if_pos h]; rfl | rfl
  · rfl
theorem getD_rl {o : List Rat} {S : Nat} (h1 : 1 ≤ S) (h : ∀ x ∈ o, rl x ≤ S) (k : Nat) : rl (o.getD k 0) ≤ S := by
  rcases Nat.lt_or_ge k o.length with hk | hk
  · exact h _ (getD_mem hk)
  · rw [List.getD_eq_getElem?_getD, List.getElem?_eq_none hk]; show rl 0 ≤ S; rw [show rl 0 = 1 from rfl]; exact h1
theorem set_rl {o : List Rat} {S : Nat} {i : Nat} {v : Rat} (h : ∀ x ∈ o, rl x ≤ S) (hv : rl v ≤ S) : ∀ x ∈ o.set i v, rl x ≤ S := fun x hx => by
  rcases List.mem_or_eq_of_mem_set hx with h1 | h1
  · exact h x h1
  · rw [h1]; exact hv
namespace H_c_choose
theorem zSm {p q : Prop} (k : q) (e : p = q := by simp only [e1, e2, e3, e4, p1, p2, p3, q1, q2, q3, l1, t0, t1, r1, r2, r3, r4, Nat.zero_add, Nat.reduceMul, Nat.reduceAdd, b1, b2, b3, b4, b5, b6, i1, i2, i3, i4, i5, i6, Nat.reduceBEq, dfi, dfq, rtake, List.append_nil, rowI_len, ek1, ek2, egr, take_map_len, map_snoc, len_snoc, List.length_cons, List.length_nil, kills_map i64E, kills_map ratE, LV.kill, kills]; exact rfl) : p := e.mpr k
end H_c_choose
open H_c_choose in
theorem c_choose (n : Nat) (hn : n ≤ 40) : CallP Tryz.prog 106 [nI64 n] (.list 3 ((chR n).map ratL)) := by
  refine fnP Tryz.func106 ?_
  have ek1 : True := trivial
  have ek2 : True := trivial
  have egr : True := trivial
  refine zg19 ?_
  refine wl_weak (Weak.mv (t := 3) (b := 8) 14 (by decide) (by decide) (by decide) rfl rfl rfl) ?_
  refine lp1 (fun (k : Nat) L => ((((St.mk L.slot (hp [(14, ⟨1, (rowI k).map i64L, true⟩)])).put (some 3) (.ref 14 1 0 (k + 1))).put (some 9) (nI64 n)).put (some 10) (nI64 k))) (fun k => k ≤ n) (fun k => n - k) 0 (Nat.zero_le _) ?_
  rintro k L1 hk
  refine zg6 ?_
  refine wl_if rfl (fun h11r h11 => ?_) (fun h11r h11 => ?_)
  · have hkn : k < n := by omega
    have ek2 : ((((k + 1 + 1 : Nat)) : Int) - 2) = (k : Int) := by omega
    refine zg8 ?_
    refine st_store rfl (.app (news := [i64L 1]) rfl rfl rfl rfl rfl (by simp [rowI_len]) (.inl rfl) (by decide) Tryz.underlying99 Tryz.underlying99 Z2 T2 rfl B2 (.inl ⟨13, 0, _, rfl, by decide, rfl, rfl, by simp, rfl, rfl⟩) (by simp; omega) (by simp; omega) (by decide)) ?_
    refine zg4 ?_
    refine wl_regW (Weak.kill _ 13) ?_
    refine zg7 ?_
    refine lp2 (fun (i : Nat) (o : List Int) L => (((((St.mk L.slot (hp [(14, ⟨1, o.map i64L, true⟩)])).put (some 3) (.ref 14 1 0 (k + 1 + 1))).put (some 4) (nI64 i)).put (some 9) (nI64 n)).put (some 10) (nI64 k))) (fun i o => i ≤ k ∧ PasC k i o) (fun i o => i) k (rowI k ++ [1]) ⟨Nat.le_refl _, pas_init k⟩ ?_
    rintro i o L2 ⟨hi, hP⟩
    refine zg7 ?_
    refine wl_if rfl (fun h19r h19 => ?_) (fun h19r h19 => ?_)
    · obtain ⟨j, rfl⟩ : ∃ j, i = j + 1 := ⟨i - 1, by omega⟩
      have ek1 : (((j + 1 : Nat) : Int) - 1) = (j : Int) := by omega
      have hol := hP.1
      have hb1 := pas_bd hP (by omega) (x := j + 1) (by omega)
      have hb2 := pas_bd hP (by omega) (x := j) (by omega)
      refine zg4 ?_
      refine wl_regD 11 (by decide +kernel) ?_
      refine zg21 ?_
      exact nx2 j (o.set (j + 1) (o.getD (j + 1) 0 + o.getD j 0)) ⟨by omega, pas_step hP hi⟩
    · obtain rfl : i = 0 := by omega
      have hE := pas_end hP
      subst hE
      refine zg11 ?_
      exact nx1 (k + 1) (by omega)
  · obtain rfl : n = k := by omega
    refine zg9 ?_
    refine st_alloc rfl rfl (.mkE (n := n + 1) (m := n + 1) ml ml om om om) ?_
    refine zg12 ?_
    refine lp2 (fun (i : Nat) (w : List Rat) L => (((((St.mk L.slot (hp [(14, ⟨1, (rowI n).map i64L, true⟩), (36, ⟨3, w.map ratL, true⟩)])).put (some 5) (.ref 36 3 0 (n + 1))).put (some 37) (.ref 14 1 0 (n + 1))).put (some 38) (nI64 (n + 1))).put (some 39) (nI64 i))) (fun i w => i ≤ n + 1 ∧ w.length = n + 1 ∧ w.take i = (chR n).take i) (fun i w => n + 1 - i) 0 (List.replicate (n + 1) 0) ⟨Nat.zero_le _, by simp, rfl⟩ ?_
    rintro i w L3 ⟨hi, hwl, hwt⟩
    refine zg6 ?_
    refine wl_if rfl (fun h40r h40 => ?_) (fun h40r h40 => ?_)
    · have hin : i ≤ n := by omega
      have egr := rowI_get hin
      have hcb := chs_40 i hn
      refine zg17 ?_
      refine cp am1 (c_RInt (chs n i : Int) (by omega) (by omega)) ?_
      refine zg10 ?_
      exact nx2 (i + 1) (w.set i ((chs n i : Int) : Rat)) ⟨by omega, by simp [hwl], set_takeR (by rw [chR_len]; omega) (by rw [chR_len, hwl]) hwt (chR_get (by omega)).symm⟩
    · obtain rfl : i = n + 1 := by omega
      have hE : w = chR n := by
        rw [List.take_of_length_le (by omega), List.take_of_length_le (by rw [chR_len]; omega)] at hwt
        exact hwt
      subst hE
      refine zg12 ?_
      exact ret1f [36] rfl rfl (imm_refm ratE rfl rfl (by rw [chR_len]))
end Go.Proofs.YthhdcfhaldcheaaGreat
