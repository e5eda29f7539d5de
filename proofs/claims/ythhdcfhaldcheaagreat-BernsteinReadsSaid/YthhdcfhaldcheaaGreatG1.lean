/- The document's sums, multiples, elevations, products and derivatives. -/
import Derived.Test.YthhdcfhaldcheaaGreatH2
import Derived.Test.YthhdcfhaldcheaaGreatE2
set_option linter.unusedVariables false
set_option linter.unusedSimpArgs false
set_option maxHeartbeats 8000000
set_option maxRecDepth 100000
attribute [local irreducible] Go.Lg.opsL Go.Lg.wpL Go.Lg.thenL Go.Lg.blockL
namespace Go.Proofs.YthhdcfhaldcheaaGreat
open Go.Lg
end Go.Proofs.YthhdcfhaldcheaaGreat
namespace Go.Lg
/-- a slice of the call's own and a number, handed back -/
theorem ret2own {P : Program} {L : St} {t u b sz len : Nat} {x y : LV} {blk : Blk} (h : L.slot t = .ref b sz 0 len) (hb : L.heap b = some blk) (hp : pures blk.vals = true) (h2 : L.slot u = x) (hi : Imm L.heap x y) : RetL P [.tmp t, .tmp u] L (.tup [.ref 1 sz 0 len, y]) [blk] :=
  ⟨[.ref b sz 0 len, x], [.ref 1 sz 0 len, y], L.heap, [b], .cons h (.cons h2 .nil), Heap.le_refl _, .cons (.ref (k := 0) rfl) (.cons (.imm hi) .nil), by simp, rfl, fun k c hk => by
    cases k with
    | zero => simp at hk; subst hk; exact ⟨blk, hb, rfl, hp⟩
    | succ k => simp at hk, rfl⟩
end Go.Lg
namespace Go.Proofs.YthhdcfhaldcheaaGreat
open Go.Lg
/-! ### binomial coefficients by products of fractions -/
theorem chs_step : ∀ (n k : Nat), chs n (k + 1) * (k + 1) = chs n k * (n - k)
  | 0, k => by simp [chs]
  | n + 1, 0 => by
    have h := chs_step n 0
    simp only [chs, chs_zero] at *
    omega
  | n + 1, k + 1 => by
    have h1 := chs_step n k
    have h2 := chs_step n (k + 1)
    rcases Nat.lt_or_ge n (k + 1) with h | h
    · rw [chs_gt (show n + 1 < k + 1 + 1 by omega), show n + 1 - (k + 1) = 0 by omega]; simp
    · have e : chs (n + 1) (k + 1) = chs n k + chs n (k + 1) := rfl
      have e2 : chs (n + 1) (k + 1 + 1) = chs n (k + 1) + chs n (k + 1 + 1) := rfl
      rw [e, e2, show n + 1 - (k + 1) = n - k by omega, Nat.add_mul, Nat.add_mul, h2, ← h1, ← Nat.mul_add, ← Nat.mul_add]
      congr 1; omega
theorem chs_frac {n k : Nat} (h : k < n) : (((chs n k : Nat) : Int) : Rat) * ((((n : Int) - (k : Int) : Int) : Rat) / (((k : Int) + 1 : Int) : Rat)) = (((chs n (k + 1) : Nat) : Int) : Rat) := by
  have e := chs_step n k
  have e2 : ((chs n (k + 1) : Nat) : Int) * ((k : Int) + 1) = ((chs n k : Nat) : Int) * ((n : Int) - (k : Int)) := by
    rw [show (n : Int) - (k : Int) = ((n - k : Nat) : Int) by omega, show (k : Int) + 1 = ((k + 1 : Nat) : Int) by omega, ← Int.natCast_mul, ← Int.natCast_mul, e]
  have e3 : (((chs n (k + 1) : Nat) : Int) : Rat) * (((k : Int) + 1 : Int) : Rat) = (((chs n k : Nat) : Int) : Rat) * ((((n : Int) - (k : Int)) : Int) : Rat) := by rw [← Rat.intCast_mul, ← Rat.intCast_mul, e2]
  have h0 : (((k : Int) + 1 : Int) : Rat) ≠ 0 := fun e => by have := Rat.intCast_eq_zero_iff.1 e; omega
  have h1 := Rat.mul_inv_cancel _ h0
  rw [Rat.div_def, ← Rat.mul_assoc, ← e3, Rat.mul_assoc, h1, Rat.mul_one]
theorem chsQ_rl {n : Nat} (k : Nat) (hn : n ≤ 40) : rl (((chs n k : Nat) : Int) : Rat) ≤ 2 := by
  rcases Nat.lt_or_ge n k with h | h
  · rw [chs_gt h]; decide
  · have h1 := chR_rl hn _ (getD_mem (i := k) (by rw [chR_len]; omega))
    rw [chR_get h] at h1; exact h1
/-! ### multiples -/
def scP (r : Rat) (p : List Rat) : List Rat := p.map (r * ·)
theorem scP_len (r : Rat) (p : List Rat) : (scP r p).length = p.length := by simp [scP]
theorem scP_get {r : Rat} {p : List Rat} {i : Nat} (h : i < p.length) : (scP r p).getD i 0 = r * p.getD i 0 := by
  rw [List.getD_eq_getElem?_getD, List.getElem?_eq_getElem (by rw [scP_len]; exact h), List.getD_eq_getElem?_getD, List.getElem?_eq_getElem h]; simp [scP]
theorem scP_rl {r : Rat} {p : List Rat} {R S : Nat} (hr : rl r ≤ R) (h : ∀ x ∈ p, rl x ≤ S) : ∀ x ∈ scP r p, rl x ≤ R + S := fun x hx => by
  obtain ⟨y, hy, rfl⟩ := List.mem_map.1 hx
  have h1 := rl_mul r y
  have h2 := h y hy
  show rl (r * y) ≤ _
  omega
theorem getD0 (p : List Rat) (i : Nat) (h : p.length ≤ i) : p.getD i 0 = 0 := ge_zero h
theorem scP_get' (r : Rat) (p : List Rat) (i : Nat) : (scP r p).getD i 0 = r * p.getD i 0 := by
  rcases Nat.lt_or_ge i p.length with h | h
  · exact scP_get h
  · rw [getD0 _ _ h, getD0 _ _ (by rw [scP_len]; exact h), Rat.mul_zero]
theorem lif_sc (r : Rat) (p : List Rat) : lifP (scP r p) = scP r (lifP p) := by
  refine ext0 (by rw [lifP_len, scP_len, scP_len, lifP_len]) fun k hk => ?_
  rw [lifP_len, scP_len] at hk
  rw [lifP_get (by rw [scP_len]; exact hk), scP_get', lifP_get hk]
  unfold lifV
  rw [scP_len, scP_get', scP_get']
  split <;> split <;> grind
theorem it_sc (r : Rat) : ∀ (k : Nat) (p : List Rat), itL k (scP r p) = scP r (itL k p)
  | 0, p => rfl
  | k + 1, p => by rw [itL, itL, lif_sc, it_sc r k]
theorem up_sc (r : Rat) (p : List Rat) (n : Nat) : upP (scP r p) n = scP r (upP p n) := by rw [upP, upP, scP_len, it_sc]
theorem zip_neg (p q : List Rat) : zipG (· + ·) p (scP (-1) q) = zipG (· - ·) p q := by
  refine ext0 (by rw [zipG_len, zipG_len]) fun k hk => ?_
  rw [zipG_len] at hk
  rw [zipG_get hk, zipG_get hk, scP_get']
  grind
theorem upS_sc {p : List Rat} {n : Nat} (h : ∀ k, p.length + k ≤ n + 1 → ∀ x ∈ itL k p, rl x ≤ 1073741000) (h0 : p.length ≤ n + 1) : upS (scP (-1) p) n := by
  have hr : rl (-1) ≤ 1 := by decide +kernel
  refine ⟨fun x hx => ?_, fun k hk x hx => ?_⟩
  · have := scP_rl hr (h 0 h0) x hx; omega
  · rw [scP_len] at hk
    rw [it_sc] at hx
    have := scP_rl hr (h k hk) x hx; omega
/-! ### one degree more, as the document says it -/
theorem lif_mid {p : List Rat} {i : Nat} (h0 : 0 < i) (h1 : i < p.length) : (1 - ((i : Int) : Rat) / ((p.length : Int) : Rat)) * p.getD i 0 + ((i : Int) : Rat) / ((p.length : Int) : Rat) * p.getD (i - 1) 0 = (lifP p).getD i 0 := by
  rw [lifP_get (by omega), lifV_tt h0 h1, Rat.intCast_sub]
  have hn : ((p.length : Int) : Rat) ≠ 0 := fun e => by have := Rat.intCast_eq_zero_iff.1 e; omega
  have e2 := Rat.mul_inv_cancel _ hn
  simp only [Rat.div_def]
  grind
theorem lif_fst {p : List Rat} (h : 0 < p.length) : (lifP p).getD 0 0 = p.getD 0 0 := by
  rw [lifP_get (by omega), lifV_ft (by omega) h, show (p.length : Int) - ((0 : Nat) : Int) = (p.length : Int) by omega]
  have hn : ((p.length : Int) : Rat) ≠ 0 := fun e => by have := Rat.intCast_eq_zero_iff.1 e; omega
  rw [Rat.div_def, Rat.mul_inv_cancel _ hn, Rat.one_mul]
theorem lif_lst {p : List Rat} (h : 0 < p.length) : (lifP p).getD p.length 0 = p.getD (p.length - 1) 0 := by
  rw [lifP_get (by omega), lifV_tf h (by omega)]
  have hn : ((p.length : Int) : Rat) ≠ 0 := fun e => by have := Rat.intCast_eq_zero_iff.1 e; omega
  rw [Rat.div_def, Rat.mul_inv_cancel _ hn, Rat.one_mul]
theorem lif_end {p w : List Rat} (h0 : 0 < p.length) (hl : w.length = p.length + 1) (ht : w.take p.length = (lifP p).take p.length) (hn : w.getD p.length 0 = p.getD (p.length - 1) 0) : w = lifP p := by
  refine ext0 (by rw [hl, lifP_len]) fun k hk => ?_
  rcases Nat.lt_or_ge k p.length with h | h
  · have := congrArg (fun l => l.getD k 0) ht
    simpa [List.getD_eq_getElem?_getD, List.getElem?_take_of_lt h] using this
  · obtain rfl : k = p.length := by omega
    rw [hn, lif_lst h0]
theorem take_one {w q : List Rat} (h1 : 0 < w.length) (h2 : 0 < q.length) (h : w.getD 0 0 = q.getD 0 0) : w.take 1 = q.take 1 := by
  match w, q, h1, h2 with
  | a :: w, b :: q, _, _ => simp at h; simp [h]
/-! ### products, as the document says them -/
theorem mul_same (a b p q : Rat) : a * b * (p * q) = a * p * (b * q) := by grind
namespace H_c_FChoose
theorem zSm {p q : Prop} (k : q) (e : p = q := by simp only [e1, e2, e3, e4, p1, p2, p3, q1, q2, q3, l1, t0, t1, r1, r2, r3, r4, Nat.zero_add, Nat.reduceMul, Nat.reduceAdd, b1, b2, b3, b4, b5, b6, i1, i2, i3, i4, i5, i6, Nat.reduceBEq, ech, dfq, kills_map ratE, ratL_kill, spL_kill, LV.kill, kills]; exact rfl) : p := e.mpr k
end H_c_FChoose
open H_c_FChoose in
theorem c_FChoose (n k : Nat) (hn : n ≤ 40) (hk : k ≤ n) : CallP Tryz.prog 110 [nI64 n, nI64 k] (ratL (((chs n k : Nat) : Int) : Rat)) := by
  refine fnP Tryz.func110 ?_
  have ech : True := trivial
  refine zg7 ?_
  refine cp am1 (c_FInt 1 (by decide) (by decide)) ?_
  refine zg11 ?_
  refine lp1 (fun (i : Nat) L => ((((((St.mk L.slot (hp [(4, ⟨3, [.agg [.v (.bool false), .list 1 [], .list 1 []]], true⟩), (5, ⟨3, [ratL (((chs n i : Nat) : Int) : Rat)], true⟩)])).put (some 0) (nI64 n)).put (some 1) (nI64 k)).put (some 4) (.eptr 4 3 0 0)).put (some 5) (.eptr 5 3 0 0)).put (some 6) (nI64 i))) (fun i => i ≤ k) (fun i => k - i) 0 (Nat.zero_le _) (h0 := ⟨_, Weak.of_eq (put_id' (put_id' (put_id' (put_id' (put_id' (mk_id' (by rw [chs_zero]; exact cl)) cl) cl) cl) cl) cl)⟩) ?_
  rintro i L1 hi
  refine zg8 ?_
  refine wl_if rfl (fun h10r h10 => ?_) (fun h10r h10 => ?_)
  · have hi2 : i < n := by omega
    have ech := chs_frac hi2
    have hcr := chsQ_rl (n := n) i hn
    have hfr := rl_ints (n := (n : Int) - (i : Int)) (d := (i : Int) + 1) (by omega) (by omega)
    refine zg4 ?_
    refine wl_regD 8 (by decide +kernel) ?_
    refine zg6 ?_
    refine cp am2 (c_FFrac ((n : Int) - (i : Int)) ((i : Int) + 1) (by omega) (by omega) (by omega) (by omega) (by omega)) ?_
    refine cp am2 (c_FRMul (((chs n i : Nat) : Int) : Rat) ((((n : Int) - (i : Int) : Int) : Rat) / (((i : Int) + 1 : Int) : Rat)) (by omega)) ?_
    refine zg10 ?_
    exact nx1 (i + 1) (by omega)
  · obtain rfl : i = k := by omega
    refine zg12 ?_
    exact retC [] rfl rfl rfl (ratE.csize _) (ratL_all _) T33 (.pure (ratE.pure _))
namespace H_c_FScale
theorem zSm {p q : Prop} (k : q) (e : p = q := by simp only [e1, e2, e3, e4, p1, p2, p3, q1, q2, q3, l1, t0, t1, r1, r2, r3, r4, Nat.zero_add, Nat.reduceMul, Nat.reduceAdd, b1, b2, b3, b4, b5, b6, i1, i2, i3, i4, i5, i6, Nat.reduceBEq, dfq, List.length_set, kills_map ratE, ratL_kill, spL_kill, LV.kill, kills]; exact rfl) : p := e.mpr k
end H_c_FScale
open H_c_FScale in
theorem c_FScale (r : Rat) (p : List Rat) (hl : p.length ≤ 1048576) (h : ∀ x ∈ p, rl r + rl x ≤ 34359738368) : CallP Tryz.prog 39 [ratL r, .list 3 (p.map ratL)] (.list 3 ((scP r p).map ratL)) := by
  refine fnP Tryz.func39 ?_
  refine zg10 ?_
  refine st_alloc rfl rfl (.mkE (n := p.length) (m := p.length) ml ml om om om) ?_
  refine zg10 ?_
  refine lp2 (fun (i : Nat) (w : List Rat) L => (((((St.mk L.slot (hp [(2, ⟨3, [ratL r], true⟩), (9, ⟨3, w.map ratL, true⟩)])).put (some 1) (.list 3 (p.map ratL))).put (some 2) (.eptr 2 3 0 0)).put (some 5) (.ref 9 3 0 p.length)).put (some 6) (nI64 i))) (fun i w => i ≤ p.length ∧ w.length = p.length ∧ w.take i = (scP r p).take i) (fun i w => p.length - i) 0 (List.replicate p.length 0) ⟨Nat.zero_le _, by simp, rfl⟩ ?_
  rintro i w L1 ⟨hi, hwl, hwt⟩
  refine zg9 ?_
  refine wl_if rfl (fun h13r h13 => ?_) (fun h13r h13 => ?_)
  · have hi2 : i < p.length := by omega
    have hri := h _ (getD_mem hi2)
    refine zg4 ?_
    refine wl_regD 9 (by decide +kernel) ?_
    refine zg7 ?_
    refine cp am2 (c_FRMul r (p.getD i 0) (by omega)) ?_
    try simp only [t1, dfq]
    refine zg11 ?_
    exact nx2 (i + 1) (w.set i (r * p.getD i 0)) ⟨by omega, by simp [hwl], set_takeR (by rw [scP_len]; omega) (by rw [scP_len]; omega) hwt (by rw [scP_get (by omega)])⟩
  · obtain rfl : i = p.length := by omega
    have hE : w = (scP r p) := by
      rw [List.take_of_length_le (by omega), List.take_of_length_le (by rw [scP_len]; omega)] at hwt
      exact hwt
    subst hE
    refine zg12 ?_
    exact ret1f [9] rfl rfl (imm_refm ratE rfl rfl (scP_len r p).symm)
namespace H_c_BScale
theorem zSm {p q : Prop} (k : q) (e : p = q := by simp only [e1, e2, e3, e4, p1, p2, p3, q1, q2, q3, l1, t0, t1, r1, r2, r3, r4, Nat.zero_add, Nat.reduceMul, Nat.reduceAdd, b1, b2, b3, b4, b5, b6, i1, i2, i3, i4, i5, i6, Nat.reduceBEq, dfq, List.length_set, kills_map ratE, ratL_kill, spL_kill, LV.kill, kills]; exact rfl) : p := e.mpr k
end H_c_BScale
open H_c_BScale in
theorem c_BScale (r : Rat) (p : List Rat) (hl : p.length ≤ 1048576) (h : ∀ x ∈ p, rl r + rl x ≤ 34359738368) : CallP Tryz.prog 38 [ratL r, .list 3 (p.map ratL)] (.list 3 ((scP r p).map ratL)) := by
  refine fnP Tryz.func38 ?_
  refine zg10 ?_
  refine st_alloc rfl rfl (.mkE (n := p.length) (m := p.length) ml ml om om om) ?_
  refine zg12 ?_
  refine lp2 (fun (i : Nat) (w : List Rat) L => ((((((St.mk L.slot (hp [(2, ⟨3, [ratL r], true⟩), (10, ⟨3, w.map ratL, true⟩)])).put (some 2) (.eptr 2 3 0 0)).put (some 5) (.ref 10 3 0 p.length)).put (some 11) (.list 3 (p.map ratL))).put (some 12) (nI64 p.length)).put (some 13) (nI64 i))) (fun i w => i ≤ p.length ∧ w.length = p.length ∧ w.take i = (scP r p).take i) (fun i w => p.length - i) 0 (List.replicate p.length 0) ⟨Nat.zero_le _, by simp, rfl⟩ ?_
  rintro i w L1 ⟨hi, hwl, hwt⟩
  refine zg6 ?_
  refine wl_if rfl (fun h14r h14 => ?_) (fun h14r h14 => ?_)
  · have hi2 : i < p.length := by omega
    have hri := h _ (getD_mem hi2)
    refine zg19 ?_
    refine cp am2 (c_RMul r (p.getD i 0) (by omega)) ?_
    try simp only [t1, dfq]
    refine zg5 ?_
    refine wl_regW (Weak.kill _ 7) ?_
    refine zg4 ?_
    exact nx2 (i + 1) (w.set i (r * p.getD i 0)) ⟨by omega, by simp [hwl], set_takeR (by rw [scP_len]; omega) (by rw [scP_len]; omega) hwt (by rw [scP_get (by omega)])⟩
  · obtain rfl : i = p.length := by omega
    have hE : w = (scP r p) := by
      rw [List.take_of_length_le (by omega), List.take_of_length_le (by rw [scP_len]; omega)] at hwt
      exact hwt
    subst hE
    refine zg12 ?_
    exact ret1f [10] rfl rfl (imm_refm ratE rfl rfl (scP_len r p).symm)
namespace H_c_Flift
theorem zSm {p q : Prop} (k : q) (e : p = q := by simp only [e1, e2, e3, e4, p1, p2, p3, q1, q2, q3, l1, t0, t1, r1, r2, r3, r4, Nat.zero_add, Nat.reduceMul, Nat.reduceAdd, b1, b2, b3, b4, b5, b6, i1, i2, i3, i4, i5, i6, Nat.reduceBEq, dfq, tz0, hkn, eim, List.length_set, kills_map ratE, ratL_kill, spL_kill, LV.kill, kills]; exact rfl) : p := e.mpr k
end H_c_Flift
open H_c_Flift in
theorem c_Flift (p : List Rat) (hp0 : 0 < p.length) (hl : p.length ≤ 1000) (hpr : ∀ x ∈ p, rl x ≤ 1073741824) : CallP Tryz.prog 105 [.list 3 (p.map ratL)] (.list 3 ((lifP p).map ratL)) := by
  have hkn : ((p.length : Int) - 1).toNat = p.length - 1 := by omega
  have hrl : (List.replicate (p.length + 1) (0 : Rat)).length = p.length + 1 := List.length_replicate
  refine fnP Tryz.func105 ?_
  have eim : True := trivial
  refine zg15 ?_
  refine st_pure rfl (.bin rfl rfl (add1N (by omega))) ?_
  refine st_alloc rfl rfl (.mkE (n := (p.length + 1)) (m := (p.length + 1)) ml ml om om om) ?_
  refine zg4 ?_
  refine wl_regF 12 [1, 2] (by decide +kernel) ?_
  refine zg24 ?_
  refine lp2 (fun (i : Nat) (w : List Rat) L => (((((St.mk L.slot (hp [(10, ⟨3, w.map ratL, true⟩)])).put (some 0) (.list 3 (p.map ratL))).put (some 3) (nI64 p.length)).put (some 4) (.ref 10 3 0 (p.length + 1))).put (some 5) (nI64 i))) (fun i w => 1 ≤ i ∧ i ≤ p.length ∧ w.length = p.length + 1 ∧ w.take i = (lifP p).take i ∧ w.getD p.length 0 = p.getD (p.length - 1) 0) (fun i w => p.length - i) 1 (((List.replicate (p.length + 1) 0).set 0 (p.getD 0 0)).set p.length (p.getD (p.length - 1) 0)) ⟨Nat.le_refl _, hp0, by simp, take_one (by simp) (by rw [lifP_len]; omega) (by rw [set_getD _ _ _ _ (by simp), if_neg (by omega), set_getD _ _ _ _ (by simp), if_pos rfl, lif_fst hp0]), by rw [set_getD _ _ _ _ (by simp), if_pos rfl]⟩ ?_
  rintro i w L1 ⟨hi1, hi, hwl, hwt, hwe⟩
  refine zg8 ?_
  refine wl_if rfl (fun h26r h26 => ?_) (fun h26r h26 => ?_)
  · have hi2 : i < p.length := by omega
    have eim : ((i : Int) - 1).toNat = i - 1 := by omega
    have hfr := rl_ints (n := (i : Int)) (d := (p.length : Int)) (by omega) (by omega)
    have hr1 := hpr _ (getD_mem hi2)
    have hr2 := hpr _ (getD_mem (i := i - 1) (by omega))
    have hB := c_FBetw (p.getD i 0) (p.getD (i - 1) 0) (((i : Int) : Rat) / ((p.length : Int) : Rat)) (by omega)
    rw [lif_mid (by omega) hi2] at hB
    refine zg4 ?_
    refine wl_regD 16 (by decide +kernel) ?_
    refine zg13 ?_
    refine cp am2 (c_FFrac (i : Int) (p.length : Int) (by omega) (by omega) (by omega) (by omega) (by omega)) ?_
    try simp only [t1, dfq, eim]
    refine cp am3 (hB) ?_
    refine zg7 ?_
    refine st_pure rfl (.bin rfl rfl (add1N (by omega))) ?_
    refine zg3 ?_
    exact nx2 (i + 1) (w.set i ((lifP p).getD i 0)) ⟨by omega, by omega, by simp [hwl], set_takeR (by rw [lifP_len]; omega) (by rw [lifP_len]; omega) hwt rfl, by rw [set_getD _ _ _ _ (by omega), if_neg (by omega)]; exact hwe⟩
  · obtain rfl : i = p.length := by omega
    have hE := lif_end hp0 hwl hwt hwe
    subst hE
    refine zg12 ?_
    exact ret1f [10] rfl rfl (imm_refm ratE rfl rfl (lifP_len p).symm)
namespace H_c_FElev
theorem zSm {p q : Prop} (k : q) (e : p = q := by simp only [e1, e2, e3, e4, p1, p2, p3, q1, q2, q3, l1, t0, t1, r1, r2, r3, r4, Nat.zero_add, Nat.reduceMul, Nat.reduceAdd, b1, b2, b3, b4, b5, b6, i1, i2, i3, i4, i5, i6, Nat.reduceBEq, dfq, elen, take_map_len, map_snoc, len_snoc, List.length_cons, List.length_nil, List.nil_append, List.map_nil, List.take_nil, List.append_nil, kills_map ratE, ratL_kill, spL_kill, LV.kill, kills]; exact rfl) : p := e.mpr k
end H_c_FElev
open H_c_FElev in
theorem c_FElev (p : List Rat) (n : Nat) (hp0 : 0 < p.length) (hn : n ≤ 40) (hpn : p.length ≤ n + 1) (hps : upS p n) : CallOK Tryz.prog 30 [.list 3 (p.map ratL), nI64 n] (.tup [.ref 1 3 0 (n + 1), iL 0]) [⟨3, (upP p n).map ratL, true⟩] := by
  refine fnO Tryz.func30 ?_
  have elen : True := trivial
  refine zg12 ?_
  refine st_pure rfl (.bin rfl rfl (sub64 (by omega) (by omega))) ?_
  refine zg2 ?_
  refine op_if 11 rfl (fun h11r h11 => ?_) (fun h11r h11 => ?_)
  · refine zg14 ?_
    exfalso
    omega
  · refine zg5 ?_
    refine wl_if rfl (fun h14r h14 => ?_) (fun h14r h14 => ?_)
    · omega
    · refine zg4 ?_
      refine lp1 (fun (o : List Rat) L => (((St.mk L.slot (hp [])).put (some 0) (.list 3 (o.map ratL))).put (some 1) (nI64 n))) (fun o => 0 < o.length ∧ o.length ≤ n + 1 ∧ upS o n ∧ itL (n + 1 - o.length) o = (upP p n)) (fun o => n + 1 - o.length) p ⟨hp0, hpn, hps, rfl⟩ ?_
      rintro o L1 ⟨ho0, hol, hos, hit⟩
      refine zg9 ?_
      refine wl_if rfl (fun h18r h18 => ?_) (fun h18r h18 => ?_)
      · have ho2 : o.length ≤ n := by omega
        refine zg5 ?_
        refine cp am1 (c_Flift o ho0 (by omega) hos.1) ?_
        refine zg4 ?_
        exact nx1 (lifP o) ⟨by rw [lifP_len]; omega, by rw [lifP_len]; omega, upS_step (by omega) hos, by rw [itL_step (by omega)]; exact hit⟩ (hm := by rw [lifP_len]; omega)
      · have ho2 : o.length = n + 1 := by omega
        have hE : (upP p n) = o := by rw [← hit, show n + 1 - o.length = 0 by omega]; rfl
        have elen := ho2
        refine zg9 ?_
        refine st_store rfl (.app (news := o.map ratL) rfl rfl rfl rfl rfl (Nat.zero_le _) (.inr rfl) (by decide) Tryz.underlying38 Tryz.underlying38 Z33a T33 rfl B33 (.inr (.inl rfl)) (by simp; omega) (by simp; omega) (by decide)) ?_
        refine zg5 ?_
        rw [hE]
        exact ret2own rfl rfl (pures_map ratE _) rfl (.pure rfl)
end Go.Proofs.YthhdcfhaldcheaaGreat
