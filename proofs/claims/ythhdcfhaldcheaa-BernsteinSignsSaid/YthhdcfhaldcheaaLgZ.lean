/- Plain laws of long division with limbs. -/
import Derived.Test.YthhdcfhaldcheaaLgY
set_option linter.unusedVariables false
set_option linter.unusedSimpArgs false
namespace Go.Lg

/-! ### One digit of the quotient, estimated -/
section
variable {R V p vt v2 vl top u2 rl : Nat}
theorem kn_top (hV : V = (vt * 4294967296 + v2) * p + vl) (hR : R = (top * 4294967296 + u2) * p + rl) (hrl : rl < p) (hu2 : u2 < 4294967296) (hvt : 0 < vt) : R / V ≤ top / vt := by
  rw [Nat.le_div_iff_mul_le hvt]
  have h1 : R / V * V ≤ R := Nat.div_mul_le_self R V
  have h2 : R / V * (vt * 4294967296 * p) ≤ R / V * V := Nat.mul_le_mul_left _ (by rw [hV, Nat.add_mul]; omega)
  have h3 : R < (top + 1) * 4294967296 * p := by
    rw [hR]
    have : (top * 4294967296 + u2 + 1) * p ≤ (top + 1) * 4294967296 * p := Nat.mul_le_mul_right _ (by omega)
    rw [Nat.add_mul _ 1] at this; omega
  have h4 : R / V * vt * (4294967296 * p) < (top + 1) * (4294967296 * p) := by
    have e1 : R / V * vt * (4294967296 * p) = R / V * (vt * 4294967296 * p) := by simp only [Nat.mul_assoc]
    have e2 : (top + 1) * (4294967296 * p) = (top + 1) * 4294967296 * p := by simp only [Nat.mul_assoc]
    rw [e1, e2]; omega
  exact Nat.le_of_lt_succ (Nat.lt_of_mul_lt_mul_right h4)
theorem kn_dec {x rest : Nat} (hV : V = (vt * 4294967296 + v2) * p + vl) (hR : R = (top * 4294967296 + u2) * p + rl) (hrl : rl < p) (hV0 : 0 < V)
    (hx : x * vt + rest = top) (h : rest * 4294967296 + u2 < x * v2) : R / V < x := by
  rw [Nat.div_lt_iff_lt_mul hV0]
  have h1 : x * ((vt * 4294967296 + v2) * p) ≤ x * V := Nat.mul_le_mul_left _ (by rw [hV]; omega)
  have h2 : top * 4294967296 + u2 + 1 ≤ x * (vt * 4294967296 + v2) := by
    rw [← hx, Nat.add_mul, Nat.mul_add, Nat.mul_assoc]; omega
  have h3 : (top * 4294967296 + u2 + 1) * p ≤ x * (vt * 4294967296 + v2) * p := Nat.mul_le_mul_right _ h2
  rw [Nat.add_mul _ 1] at h3
  rw [Nat.mul_assoc] at h3
  omega
theorem kn_fin {x rest : Nat} (hV : V = (vt * 4294967296 + v2) * p + vl) (hR : R = (top * 4294967296 + u2) * p + rl) (hvl : vl < p) (hvt : 0 < vt) (hV0 : 0 < V)
    (hx : x * vt + rest = top) (hxB : x ≤ 4294967296) (h : x * v2 ≤ rest * 4294967296 + u2) : x ≤ R / V + 1 := by
  cases x with
  | zero => exact Nat.zero_le _
  | succ y =>
    have : y ≤ R / V := by
      rw [Nat.le_div_iff_mul_le hV0]
      have h1 : (y + 1) * (vt * 4294967296 + v2) ≤ top * 4294967296 + u2 := by
        rw [← hx, Nat.mul_add, Nat.add_mul _ rest, ← Nat.mul_assoc]; omega
      have h2 : (y + 1) * (vt * 4294967296 + v2) * p ≤ (top * 4294967296 + u2) * p := Nat.mul_le_mul_right _ h1
      have h3 : y * vl ≤ y * p := Nat.mul_le_mul_left _ (Nat.le_of_lt hvl)
      have h4 : y * p ≤ 4294967296 * p := Nat.mul_le_mul_right _ (by omega)
      have h5 : 4294967296 * p ≤ (vt * 4294967296 + v2) * p := Nat.mul_le_mul_right _ (by omega)
      have h6 : y * V = y * (vt * 4294967296 + v2) * p + y * vl := by rw [hV, Nat.mul_add, Nat.mul_assoc]
      have h7 : (y + 1) * (vt * 4294967296 + v2) * p = y * (vt * 4294967296 + v2) * p + (vt * 4294967296 + v2) * p := by rw [Nat.add_mul, Nat.add_mul, Nat.one_mul]
      omega
    omega
theorem kn_un {un u1 : Nat} (hV : V = (vt * 4294967296 + v2) * p + vl) (hR : R = ((un * 4294967296 + u1) * 4294967296 + u2) * p + rl) (hvl : vl < p) (hv2 : v2 < 4294967296) (hRV : R < V * 4294967296) : un ≤ vt := by
  apply Classical.byContradiction
  intro h
  have h1 : (vt + 1) * 4294967296 ≤ un * 4294967296 := by omega
  have h2 : (vt * 4294967296 + v2 + 1) * 4294967296 ≤ (un * 4294967296 + u1) * 4294967296 + u2 := by
    have : (vt * 4294967296 + v2 + 1) ≤ un * 4294967296 + u1 := by omega
    exact Nat.le_trans (Nat.mul_le_mul_right 4294967296 this) (Nat.le_add_right _ _)
  have h3 : (vt * 4294967296 + v2 + 1) * 4294967296 * p ≤ ((un * 4294967296 + u1) * 4294967296 + u2) * p := Nat.mul_le_mul_right _ h2
  have h4 : V ≤ (vt * 4294967296 + v2 + 1) * p := by rw [hV, Nat.add_mul _ 1]; omega
  have h5 : V * 4294967296 ≤ (vt * 4294967296 + v2 + 1) * p * 4294967296 := Nat.mul_le_mul_right _ h4
  have h6 : (vt * 4294967296 + v2 + 1) * p * 4294967296 = (vt * 4294967296 + v2 + 1) * 4294967296 * p := by rw [Nat.mul_right_comm]
  omega
/-- where the rest has grown out of a limb the estimate fits -/
theorem kn_break {x rest un u1 : Nat} (hx : x * vt + rest = un * 4294967296 + u1) (hun : un ≤ vt) (hu1 : u1 < 4294967296) (hv2 : v2 < 4294967296) (hr : 4294967296 ≤ rest) : x < 4294967296 ∧ x * v2 ≤ rest * 4294967296 + u2 := by
  have hxl : x < 4294967296 := by
    apply Classical.byContradiction
    intro h
    have h1 : 4294967296 * vt ≤ x * vt := Nat.mul_le_mul_right vt (by omega)
    omega
  refine ⟨hxl, ?_⟩
  have h1 : x * v2 ≤ 4294967296 * 4294967296 := Nat.mul_le_mul (Nat.le_of_lt hxl) (Nat.le_of_lt hv2)
  have h2 : 4294967296 * 4294967296 ≤ rest * 4294967296 := Nat.mul_le_mul_right _ hr
  omega
end

/-! ### Rows of limbs -/
theorem zeros_above {l : List Nat} {k : Nat} (h : val l < 4294967296 ^ k) : ∀ p, k ≤ p → l.getD p 0 = 0 := fun p hp => by
  apply Classical.byContradiction
  intro h0
  have hlt : p < l.length := by
    apply Classical.byContradiction
    intro hh
    exact h0 (getD_ge l p (by omega))
  have h1 := val_split l p (by omega)
  rw [val_drop hlt] at h1
  have h2 : 4294967296 ^ k ≤ 4294967296 ^ p := Nat.pow_le_pow_right (by omega) hp
  have h3 : 4294967296 ^ p * 1 ≤ 4294967296 ^ p * (l.getD p 0 + 4294967296 * val (l.drop (p + 1))) := Nat.mul_le_mul_left _ (by omega)
  omega
theorem val_all_zero : ∀ {l : List Nat}, (∀ p, l.getD p 0 = 0) → val l = 0
  | [], _ => rfl
  | x :: xs, h => by
      have h0 : x = 0 := by simpa using h 0
      have := val_all_zero (l := xs) (fun p => by simpa using h (p + 1))
      simp [val, h0, this]
theorem getD_drop (l : List Nat) (k p : Nat) : (l.drop k).getD p 0 = l.getD (k + p) 0 := by
  rw [List.getD_eq_getElem?_getD, List.getD_eq_getElem?_getD, List.getElem?_drop]
theorem val_lt_of_zeros {l : List Nat} {k : Nat} (hl : Lim l) (h : ∀ p, k ≤ p → l.getD p 0 = 0) : val l < 4294967296 ^ k := by
  by_cases hk : k ≤ l.length
  · rw [val_split l k hk, val_all_zero (l := l.drop k) (fun p => by rw [getD_drop]; exact h _ (by omega)), Nat.mul_zero, Nat.add_zero]
    exact val_lt_len (lim_take hl k) (by simp; omega)
  · exact val_lt_len hl (by omega)
/-- a row seen from a place -/
theorem val_three {l : List Nat} {k : Nat} (hk : k + 2 < l.length) (hz : ∀ p, k + 3 ≤ p → l.getD p 0 = 0) :
    val l = ((l.getD (k + 2) 0 * 4294967296 + l.getD (k + 1) 0) * 4294967296 + l.getD k 0) * 4294967296 ^ k + val (l.take k) := by
  have h3 : val (l.drop (k + 2 + 1)) = 0 := val_all_zero (fun p => by rw [getD_drop]; exact hz _ (by omega))
  rw [val_split l k (by omega), val_drop (by omega), val_drop (k := k + 1) (by omega), val_drop (k := k + 1 + 1) (by omega), h3, Nat.mul_comm (4294967296 ^ k), Nat.add_comm, show k + 1 + 1 = k + 2 from rfl]
  congr 2
  omega
theorem val_two_top {l : List Nat} {k : Nat} (hk : k + 2 = l.length) : val l = (l.getD (k + 1) 0 * 4294967296 + l.getD k 0) * 4294967296 ^ k + val (l.take k) := by
  have h3 : val (l.drop (k + 1 + 1)) = 0 := by rw [List.drop_of_length_le (by omega)]; rfl
  rw [val_split l k (by omega), val_drop (by omega), val_drop (k := k + 1) (by omega), h3, Nat.mul_comm (4294967296 ^ k), Nat.add_comm]
  congr 2
  omega

/-! ### A multiple of the divisor taken away -/
theorem ms_inv {i j c br x : Nat} {v ul : List Nat} {v0 : Nat} (hul : i + j < ul.length) (hlu : Lim ul) (hbr : br ≤ 1)
    (hv : val ul + 4294967296 ^ j * (x * val (v.take i)) = v0 + 4294967296 ^ (i + j) * (c + br)) {c1 d : Nat} (hc1 : c1 = c + x * v.getD i 0)
    (hd : d = (18446744073709551616 + (18446744073709551616 + ul.getD (i + j) 0 - c1 % 4294967296) % 18446744073709551616 - br) % 18446744073709551616) :
    d / 9223372036854775808 ≤ 1 ∧ Lim (ul.set (i + j) (d % 4294967296)) ∧
      val (ul.set (i + j) (d % 4294967296)) + 4294967296 ^ j * (x * val (v.take (i + 1))) = v0 + 4294967296 ^ (i + 1 + j) * (c1 / 4294967296 + d / 9223372036854775808) := by
  have hu := getD_lim hlu (i + j)
  refine ⟨by omega, lim_set hlu _ _ (by omega), ?_⟩
  have h1 := val_set (x := d % 4294967296) hul
  have h2 : d % 4294967296 + c1 % 4294967296 + br = ul.getD (i + j) 0 + 4294967296 * (d / 9223372036854775808) := by omega
  have h3 : 4294967296 ^ (i + j) * (d % 4294967296) + 4294967296 ^ (i + j) * (c1 % 4294967296) + 4294967296 ^ (i + j) * br = 4294967296 ^ (i + j) * ul.getD (i + j) 0 + 4294967296 ^ (i + j) * 4294967296 * (d / 9223372036854775808) := by
    rw [← Nat.mul_add, ← Nat.mul_add, h2, Nat.mul_add, Nat.mul_assoc]
  have h4 := carry_step (4294967296 ^ (i + j)) c1
  have h5 : 4294967296 ^ (i + j) * c1 = 4294967296 ^ (i + j) * c + 4294967296 ^ j * (x * (4294967296 ^ i * v.getD i 0)) := by
    rw [hc1, Nat.mul_add, Nat.pow_add]
    congr 1
    simp only [Nat.mul_assoc, Nat.mul_left_comm, Nat.mul_comm]
  have h6 : 4294967296 ^ (i + 1 + j) = 4294967296 ^ (i + j) * 4294967296 := by rw [Nat.add_right_comm, Nat.pow_succ]
  rw [val_take_succ', Nat.mul_add x, Nat.mul_add, h6, Nat.mul_add]
  rw [Nat.mul_add] at hv
  omega
/-- the last limb -/
theorem ms_last {j n c br x t : Nat} {ul : List Nat} {V v0 : Nat} (hul : n + j < ul.length) (hlu : Lim ul) (hbr : br ≤ 1) (hc : c < 4294967296)
    (hv : val ul + 4294967296 ^ j * (x * V) = v0 + 4294967296 ^ (n + j) * (c + br)) (ht : t = ul.getD (n + j) 0) {d : Nat}
    (hd : d = (18446744073709551616 + (18446744073709551616 + t - c) % 18446744073709551616 - br) % 18446744073709551616) :
    Lim (ul.set (n + j) (d % 4294967296)) ∧ d / 9223372036854775808 ≤ 1 ∧
      val (ul.set (n + j) (d % 4294967296)) + 4294967296 ^ j * (x * V) = v0 + 4294967296 ^ (n + j + 1) * (d / 9223372036854775808) := by
  have hu := getD_lim hlu (n + j)
  refine ⟨lim_set hlu _ _ (by omega), by omega, ?_⟩
  have h1 := val_set (x := d % 4294967296) hul
  have h2 : d % 4294967296 + c + br = t + 4294967296 * (d / 9223372036854775808) := by omega
  have h3 : 4294967296 ^ (n + j) * (d % 4294967296) + 4294967296 ^ (n + j) * c + 4294967296 ^ (n + j) * br = 4294967296 ^ (n + j) * t + 4294967296 ^ (n + j) * 4294967296 * (d / 9223372036854775808) := by
    rw [← Nat.mul_add, ← Nat.mul_add, h2, Nat.mul_add, Nat.mul_assoc]
  rw [Nat.pow_succ]
  rw [Nat.mul_add] at hv
  rw [← ht] at h1
  omega

/-! ### One too many: the divisor put back -/
theorem ab_inv {i j c : Nat} {v ul : List Nat} {v0 : Nat} (hul : i + j < ul.length) (hlu : Lim ul) (hv : val ul + 4294967296 ^ (i + j) * c = v0 + 4294967296 ^ j * val (v.take i)) {s : Nat} (hs : s = c + (ul.getD (i + j) 0 + v.getD i 0)) :
    Lim (ul.set (i + j) (s % 4294967296)) ∧ val (ul.set (i + j) (s % 4294967296)) + 4294967296 ^ (i + 1 + j) * (s / 4294967296) = v0 + 4294967296 ^ j * val (v.take (i + 1)) := by
  refine ⟨lim_set hlu _ _ (by omega), ?_⟩
  have h1 := val_set (x := s % 4294967296) hul
  have h2 := carry_step (4294967296 ^ (i + j)) s
  have h3 : 4294967296 ^ (i + j) * s = 4294967296 ^ (i + j) * c + 4294967296 ^ (i + j) * ul.getD (i + j) 0 + 4294967296 ^ j * (4294967296 ^ i * v.getD i 0) := by
    rw [hs, Nat.mul_add, Nat.mul_add, Nat.pow_add]
    simp only [Nat.mul_assoc, Nat.mul_left_comm, Nat.mul_comm]
    omega
  have h6 : 4294967296 ^ (i + 1 + j) = 4294967296 ^ (i + j) * 4294967296 := by rw [Nat.add_right_comm, Nat.pow_succ]
  rw [val_take_succ', Nat.mul_add, h6]
  omega
end Go.Lg
