/- Plain laws of long division with limbs. -/
import Derived.Test.YthhdcfhaldcheaaGreatLgY
set_option linter.unusedVariables false
set_option linter.unusedSimpArgs false
namespace Go.Lg

/-! ### One digit of the quotient, estimated -/
section
variable {R V p vt v2 vl top u2 rl : Nat}
theorem kn_top (hV : V = (vt * 4294967296 + v2) * p + vl) (hR : R = (top * 4294967296 + u2) * p + rl) (hrl : rl < p) (hu2 : u2 < 4294967296) (hvt : 0 < vt) : R / V ≤ top / vt := by
  rw [Nat.le_div_iff_mul_le hvt]
  have h1 : R / V * V ≤ R := Nat.div_mul_le_self R V
  have h2 : R / V * (vt * 4294967296 * p) ≤ R / V * V := Nat.mul_le_mul_left _ (by rw [hV, Nat.add_mul]; omega)
  have h3 : R < (top + 1) * 4294967296 * p := by
    rw [hR]
    have : (top * 4294967296 + u2 + 1) * p ≤ (top + 1) * 4294967296 * p := Nat.mul_le_mul_right _ (by omega)
    rw [Nat.add_mul _ 1] at this; omega
  have h4 : R / V * vt * (4294967296 * p) < (top + 1) * (4294967296 * p) := by
    have e1 : R / V * vt * (4294967296 * p) = R / V * (vt * 4294967296 * p) := by simp only [Nat.mul_assoc]
    have e2 : (top + 1) * (4294967296 * p) = (top + 1) * 4294967296 * p := by simp only [Nat.mul_assoc]
    rw [e1, e2]; omega
  exact Nat.le_of_lt_succ (Nat.lt_of_mul_lt_mul_right h4)
theorem kn_dec {x rest : Nat} (hV : V = (vt * 4294967296 + v2) * p + vl) (hR : R = (top * 4294967296 + u2) * p + rl) (hrl : rl < p) (hV0 : 0 < V)
    (hx : x * vt + rest = top) (h : rest * 4294967296 + u2 < x * v2) : R / V < x := by
  rw [Nat.div_lt_iff_lt_mul hV0]
  have h1 : x * ((vt * 4294967296 + v2) * p) ≤ x * V := Nat.mul_le_mul_left _ (by rw [hV]; omega)
  have h2 : top * 4294967296 + u2 + 1 ≤ x * (vt * 4294967296 + v2) := by
    rw [← hx, Nat.add_mul, Nat.mul_add, Nat.mul_assoc]; omega
  have h3 : (top * 4294967296 + u2 + 1) * p ≤ x * (vt * 4294967296 + v2) * p := Nat.mul_le_mul_right _ h2
  rw [Nat.add_mul _ 1] at h3
  rw [Nat.mul_assoc] at h3
  omega
theorem kn_fin {x rest : Nat} (hV : V = (vt * 4294967296 + v2) * p + vl) (hR : R = (top * 4294967296 + u2) * p + rl) (hvl : vl < p) (hvt : 0 < vt) (hV0 : 0 < V)
    (hx : x * vt + rest = top) (hxB : x ≤ 4294967296) (h : x * v2 ≤ rest * 4294967296 + u2) : x ≤ R / V + 1 := by
  cases x with
  | zero => exact Nat.zero_le _
  | succ y =>
    have : y ≤ R / V := by
      rw [Nat.le_div_iff_mul_le hV0]
      have h1 : (y + 1) * (vt * 4294967296 + v2) ≤ top * 4294967296 + u2 := by
        rw [← hx, Nat.mul_add, Nat.add_mul _ rest, ← Nat.mul_assoc]; omega
      have h2 : (y + 1) * (vt * 4294967296 + v2) * p ≤ (top * 4294967296 + u2) * p := Nat.mul_le_mul_right _ h1
      have h3 : y * vl ≤ y * p := Nat.mul_le_mul_left _ (Nat.le_of_lt hvl)
      have h4 : y * p ≤ 4294967296 * p := Nat.mul_le_mul_right _ (by omega)
      have h5 : 4294967296 * p ≤ (vt * 4294967296 + v2) * p := Nat.mul_le_mul_right _ (by omega)
      have h6 : y * V = y * (vt * 4294967296 + v2) * p + y * vl := by rw [hV, Nat.mul_add, Nat.mul_assoc]
      have h7 : (y + 1) * (vt * 4294967296 + v2) * p = y * (vt * 4294967296 + v2) * p + (vt * 4294967296 + v2) * p := by rw [Nat.add_mul, Nat.add_mul, Nat.one_mul]
      omega
    omega
theorem kn_un {un u1 : Nat} (hV : V = (vt * 4294967296 + v2) * p + vl) (hR : R = ((un * 4294967296 + u1) * 4294967296 + u2) * p + rl) (hvl : vl < p) (hv2 : v2 < 4294967296) (hRV : R < V * 4294967296) : un ≤ vt := by
  apply Classical.byContradiction
  intro h
  have h1 : (vt + 1) * 4294967296 ≤ un * 4294967296 := by omega
  have h2 : (vt * 4294967296 + v2 + 1) * 4294967296 ≤ (un * 4294967296 + u1) * 4294967296 + u2 := by
    have : (vt * 4294967296 + v2 + 1) ≤ un * 4294967296 + u1 := by omega
    exact Nat.le_trans (Nat.mul_le_mul_right 4294967296 this) (Nat.le_add_right _ _)
  have h3 : (vt * 4294967296 + v2 + 1) * 4294967296 * p ≤ ((un * 4294967296 + u1) * 4294967296 + u2) * p := Nat.mul_le_mul_right _ h2
  have h4 : V ≤ (vt * 4294967296 + v2 + 1) * p := by rw [hV, Nat.add_mul _ 1]; omega
  have h5 : V * 4294967296 ≤ (vt * 4294967296 + v2 + 1) * p * 4294967296 := Nat.mul_le_mul_right _ h4
  have h6 : (vt * 4294967296 + v2 + 1) * p * 4294967296 = (vt * 4294967296 + v2 + 1) * 4294967296 * p := by rw [Nat.mul_right_comm]
  omega
/-- where the rest has grown out of a limb the estimate fits -/
theorem kn_break {x rest un u1 : Nat} (hx : x * vt + rest = un * 4294967296 + u1) (hun : un ≤ vt) (hu1 : u1 < 4294967296) (hv2 : v2 < 4294967296) (hr : 4294967296 ≤ rest) : x < 4294967296 ∧ x * v2 ≤ rest * 4294967296 + u2 := by
  have hxl : x < 4294967296 := by
    apply Classical.byContradiction
    intro h
    have h1 : 4294967296 * vt ≤ x * vt := Nat.mul_le_mul_right vt (by omega)
    omega
  refine ⟨hxl, ?_⟩
  have h1 : x * v2 ≤ 4294967296 * 4294967296 := Nat.mul_le_mul (Nat.le_of_lt hxl) (Nat.le_of_lt hv2)
  have h2 : 4294967296 * 4294967296 ≤ rest * 4294967296 := Nat.mul_le_mul_right _ hr
  omega
end

/-! ### Rows of limbs -/
theorem zeros_above {l : List Nat} {k : Nat} (h : val l < 4294967296 ^ k) : ∀ p, k ≤ p → l.getD p 0 = 0 := fun p hp => by
  apply Classical.byContradiction
  intro h0
  have hlt : p < l.length := by
    apply Classical.byContradiction
    intro hh
    exact h0 (getD_ge l p (by omega))
  have h1 := val_split l p (by omega)
  rw [val_drop hlt] at h1
  have h2 : 4294967296 ^ k ≤ 4294967296 ^ p := Nat.pow_le_pow_right (by omega) hp
  have h3 : 4294967296 ^ p * 1 ≤ 4294967296 ^ p * (l.getD p 0 + 4294967296 * val (l.drop (p + 1))) := Nat.mul_le_mul_left _ (by omega)
  omega
theorem val_all_zero : ∀ {l : List Nat}, (∀ p, l.getD p 0 = 0) → val l = 0
  | [], _ => rfl
  | x :: xs, h => by
      have h0 : x = 0 := by simpa using h 0
      have := val_all_zero (l := xs) (fun p => by simpa using h (p + 1))
      simp [val, h0, this]
theorem getD_drop (l : List Nat) (k p : Nat) : (l.drop k).getD p 0 = l.getD (k + p) 0 := by
  rw [List.getD_eq_getElem?_getD, List.getD_eq_getElem?_getD, List.getElem?_drop]
theorem val_lt_of_zeros {l : List Nat} {k : Nat} (hl : Lim l) (h : ∀ p, k ≤ p → l.getD p 0 = 0) : val l < 4294967296 ^ k := by
  by_cases hk : k ≤ l.length
  · rw [val_split l k hk, val_all_zero (l := l.drop k) (fun p => by rw [getD_drop]; exact h _ (by omega)), Nat.mul_zero, Nat.add_zero]
    exact val_lt_len (lim_take hl k) (by simp; omega)
  · exact val_lt_len hl (by omega)
/-- a row seen from a place -/
theorem val_three {l : List Nat} {k : Nat} (hk : k + 2 < l.length) (hz : ∀ p, k + 3 ≤ p → l.getD p 0 = 0) :
    val l = ((l.getD (k + 2) 0 * 4294967296 + l.getD (k + 1) 0) * 4294967296 + l.getD k 0) * 4294967296 ^ k + val (l.take k) := by
  have h3 : val (l.drop (k + 2 + 1)) = 0 := val_all_zero (fun p => by rw [getD_drop]; exact hz _ (by omega))
  rw [val_split l k (by omega), val_drop (by omega), val_drop (k := k + 1) (by omega), val_drop (k := k + 1 + 1) (by omega), h3, Nat.mul_comm (4294967296 ^ k), Nat.add_comm, show k + 1 + 1 = k + 2 from rfl]
  congr 2
  omega
theorem val_two_top {l : List Nat} {k : Nat} (hk : k + 2 = l.length) : val l = (l.getD (k + 1) 0 * 4294967296 + l.getD k 0) * 4294967296 ^ k + val (l.take k) := by
  have h3 : val (l.drop (k + 1 + 1)) = 0 := by rw [List.drop_of_length_le (by omega)]; rfl
  rw [val_split l k (by omega), val_drop (by omega), val_drop (k := k + 1) (by omega), h3, Nat.mul_comm (4294967296 ^ k), Nat.add_comm]
  congr 2
  omega

/-! ### A multiple of the divisor taken away -/
theorem ms_inv {i j c br x : Nat} {v ul : List Nat} {v0 : Nat} (hul : i + j < ul.length) (hlu : Lim ul) (hbr : br ≤ 1)
    (hv : val ul + 4294967296 ^ j * (x * val (v.take i)) = v0 + 4294967296 ^ (i + j) * (c + br)) {c1 d : Nat} (hc1 : c1 = c + x * v.getD i 0)
    (hd : d = (18446744073709551616 + (18446744073709551616 + ul.getD (i + j) 0 - c1 % 4294967296) % 18446744073709551616 - br) % 18446744073709551616) :
    d / 9223372036854775808 ≤ 1 ∧ Lim (ul.set (i + j) (d % 4294967296)) ∧
      val (ul.set (i + j) (d % 4294967296)) + 4294967296 ^ j * (x * val (v.take (i + 1))) = v0 + 4294967296 ^ (i + 1 + j) * (c1 / 4294967296 + d / 9223372036854775808) := by
  have hu := getD_lim hlu (i + j)
  refine ⟨by omega, lim_set hlu _ _ (by omega), ?_⟩
  have h1 := val_set (x := d % 4294967296) hul
  have h2 : d % 4294967296 + c1 % 4294967296 + br = ul.getD (i + j) 0 + 4294967296 * (d / 9223372036854775808) := by omega
  have h3 : 4294967296 ^ (i + j) * (d % 4294967296) + 4294967296 ^ (i + j) * (c1 % 4294967296) + 4294967296 ^ (i + j) * br = 4294967296 ^ (i + j) * ul.getD (i + j) 0 + 4294967296 ^ (i + j) * 4294967296 * (d / 9223372036854775808) := by
    rw [← Nat.mul_add, ← Nat.mul_add, h2, Nat.mul_add, Nat.mul_assoc]
  have h4 := carry_step (4294967296 ^ (i + j)) c1
  have h5 : 4294967296 ^ (i + j) * c1 = 4294967296 ^ (i + j) * c + 4294967296 ^ j * (x * (4294967296 ^ i * v.getD i 0)) := by
    rw [hc1, Nat.mul_add, Nat.pow_add]
    congr 1
    simp only [Nat.mul_assoc, Nat.mul_left_comm, Nat.mul_comm]
  have h6 : 4294967296 ^ (i + 1 + j) = 4294967296 ^ (i + j) * 4294967296 := by rw [Nat.add_right_comm, Nat.pow_succ]
  rw [val_take_succ', Nat.mul_add x, Nat.mul_add, h6, Nat.mul_add]
  rw [Nat.mul_add] at hv
  omega
/-- the last limb -/
theorem ms_last {j n c br x t : Nat} {ul : List Nat} {V v0 : Nat} (hul : n + j < ul.length) (hlu : Lim ul) (hbr : br ≤ 1) (hc : c < 4294967296)
    (hv : val ul + 4294967296 ^ j * (x * V) = v0 + 4294967296 ^ (n + j) * (c + br)) (ht : t = ul.getD (n + j) 0) {d : Nat}
    (hd : d = (18446744073709551616 + (18446744073709551616 + t - c) % 18446744073709551616 - br) % 18446744073709551616) :
    Lim (ul.set (n + j) (d % 4294967296)) ∧ d / 9223372036854775808 ≤ 1 ∧
      val (ul.set (n + j) (d % 4294967296)) + 4294967296 ^ j * (x * V) = v0 + 4294967296 ^ (n + j + 1) * (d / 9223372036854775808) := by
  have hu := getD_lim hlu (n + j)
  refine ⟨lim_set hlu _ _ (by omega), by omega, ?_⟩
  have h1 := val_set (x := d % 4294967296) hul
  have h2 : d % 4294967296 + c + br = t + 4294967296 * (d / 9223372036854775808) := by omega
  have h3 : 4294967296 ^ (n + j) * (d % 4294967296) + 4294967296 ^ (n + j) * c + 4294967296 ^ (n + j) * br = 4294967296 ^ (n + j) * t + 4294967296 ^ (n + j) * 4294967296 * (d / 9223372036854775808) := by
    rw [← Nat.mul_add, ← Nat.mul_add, h2, Nat.mul_add, Nat.mul_assoc]
  rw [Nat.pow_succ]
  rw [Nat.mul_add] at hv
  rw [← ht] at h1
  omega

/-! ### One too many: the divisor put back -/
theorem ab_inv {i j c : Nat} {v ul : List Nat} {v0 : Nat} (hul : i + j < ul.length) (hlu : Lim ul) (hv : val ul + 4294967296 ^ (i + j) * c = v0 + 4294967296 ^ j * val (v.take i)) {s : Nat} (hs : s = c + (ul.getD (i + j) 0 + v.getD i 0)) :
    Lim (ul.set (i + j) (s % 4294967296)) ∧ val (ul.set (i + j) (s % 4294967296)) + 4294967296 ^ (i + 1 + j) * (s / 4294967296) = v0 + 4294967296 ^ j * val (v.take (i + 1)) := by
  refine ⟨lim_set hlu _ _ (by omega), ?_⟩
  have h1 := val_set (x := s % 4294967296) hul
  have h2 := carry_step (4294967296 ^ (i + j)) s
  have h3 : 4294967296 ^ (i + j) * s = 4294967296 ^ (i + j) * c + 4294967296 ^ (i + j) * ul.getD (i + j) 0 + 4294967296 ^ j * (4294967296 ^ i * v.getD i 0) := by
    rw [hs, Nat.mul_add, Nat.mul_add, Nat.pow_add]
    simp only [Nat.mul_assoc, Nat.mul_left_comm, Nat.mul_comm]
    omega
  have h6 : 4294967296 ^ (i + 1 + j) = 4294967296 ^ (i + j) * 4294967296 := by rw [Nat.add_right_comm, Nat.pow_succ]
  rw [val_take_succ', Nat.mul_add, h6]
  omega
end Go.Lg
namespace Go.Lg

theorem powpos (k : Nat) : 0 < 4294967296 ^ k := Nat.pow_pos (by omega)
theorem kn_zero {ul : List Nat} {V n j : Nat} (hVn : V < 4294967296 ^ n) (hlt : val ul < V * 4294967296 ^ (j + 1)) : ∀ p, n + j + 1 ≤ p → ul.getD p 0 = 0 := by
  apply zeros_above
  have h1 : V * 4294967296 ^ (j + 1) ≤ 4294967296 ^ n * 4294967296 ^ (j + 1) := Nat.mul_le_mul_right _ (Nat.le_of_lt hVn)
  rw [← Nat.pow_add] at h1
  exact Nat.lt_of_lt_of_le hlt h1
theorem kn_ctx {ul : List Nat} {V n j : Nat} (hn : (dig V).length = n + 2) (hul : n + 2 + j < ul.length) (hlu : Lim ul) (hlt : val ul < V * 4294967296 ^ (j + 1)) :
    ∃ vl rl, vl < 4294967296 ^ n ∧ rl < 4294967296 ^ n ∧ V = ((dig V).getD (n + 1) 0 * 4294967296 + (dig V).getD n 0) * 4294967296 ^ n + vl ∧
      val ul / 4294967296 ^ j = ((ul.getD (n + 2 + j) 0 * 4294967296 + ul.getD (n + 1 + j) 0) * 4294967296 + ul.getD (n + j) 0) * 4294967296 ^ n + rl ∧
      val ul / 4294967296 ^ j < V * 4294967296 := by
  have hVn : V < 4294967296 ^ (n + 2) := dig_length_ge (by omega)
  have hz := kn_zero hVn hlt
  have h1 := val_two_top (l := dig V) (k := n) (by omega)
  have h2 := val_three (l := ul) (k := n + j) (by omega) (fun p hp => hz p (by omega))
  rw [val_dig] at h1
  refine ⟨val ((dig V).take n), val (ul.take (n + j)) / 4294967296 ^ j, val_lt_len (lim_take (lim_dig V) _) (by simp; omega), ?_, h1, ?_, ?_⟩
  · rw [Nat.div_lt_iff_lt_mul (powpos j), ← Nat.pow_add]
    exact val_lt_len (lim_take hlu _) (by simp; omega)
  · have e1 : n + j + 2 = n + 2 + j := by omega
    have e2 : n + j + 1 = n + 1 + j := by omega
    rw [e1, e2] at h2
    rw [h2, Nat.pow_add, ← Nat.mul_assoc, Nat.add_comm, Nat.add_mul_div_right _ _ (powpos j), Nat.add_comm]
  · rw [Nat.div_lt_iff_lt_mul (powpos j)]
    rw [Nat.pow_succ] at hlt
    have e : V * 4294967296 * 4294967296 ^ j = V * (4294967296 ^ j * 4294967296) := by rw [Nat.mul_assoc, Nat.mul_comm 4294967296]
    rw [e]; exact hlt

section
variable {ul ul0 : List Nat} {V n j x : Nat}
theorem kn_le (h : val ul + 4294967296 ^ j * (x * V) = val ul0) (hV : 0 < V) : x ≤ val ul0 / 4294967296 ^ j / V := by
  rw [Nat.le_div_iff_mul_le hV, Nat.le_div_iff_mul_le (powpos j), Nat.mul_comm _ (4294967296 ^ j)]
  omega
theorem kn_gt (h : val ul + 4294967296 ^ j * (x * V) = val ul0 + 4294967296 ^ (n + j + 1)) (hlt : val ul < 4294967296 ^ (n + j + 1)) (hV : 0 < V) : val ul0 / 4294967296 ^ j / V < x := by
  rw [Nat.div_lt_iff_lt_mul hV, Nat.div_lt_iff_lt_mul (powpos j), Nat.mul_comm _ (4294967296 ^ j)]
  omega
theorem kn_back {ul3 : List Nat} {c : Nat} (hx : 0 < x) (hxV : 4294967296 ^ j * ((x - 1) * V) ≤ val ul0) (h : val ul + 4294967296 ^ j * (x * V) = val ul0 + 4294967296 ^ (n + j + 1)) (hul : n + j < ul3.length) (hl3 : Lim ul3) (hz : ∀ p, n + j + 1 ≤ p → ul3.getD p 0 = 0)
    (hc : c ≤ 1) (h3 : val ul3 + 4294967296 ^ (n + j) * c = val ul + 4294967296 ^ j * V) {t : Nat} (ht : t = ul3.getD (n + j) 0) :
    Lim (ul3.set (n + j) ((t + c) % 4294967296)) ∧ val (ul3.set (n + j) ((t + c) % 4294967296)) + 4294967296 ^ j * ((x - 1) * V) = val ul0 := by
  have hs := val_split ul3 (n + j) (by omega)
  rw [val_drop hul, val_all_zero (l := ul3.drop (n + j + 1)) (fun p => by rw [getD_drop]; exact hz _ (by omega)), Nat.mul_zero, Nat.add_zero, ← ht] at hs
  have hlow : val (ul3.take (n + j)) < 4294967296 ^ (n + j) := val_lt_len (lim_take hl3 _) (by simp; omega)
  have htl := getD_lim hl3 (n + j)
  rw [← ht] at htl
  obtain ⟨y, rfl⟩ : ∃ y, x = y + 1 := ⟨x - 1, by omega⟩
  rw [Nat.add_sub_cancel] at *
  have e1 : 4294967296 ^ j * ((y + 1) * V) = 4294967296 ^ j * (y * V) + 4294967296 ^ j * V := by rw [Nat.add_mul, Nat.one_mul, Nat.mul_add]
  rw [e1] at h
  have h4 : val (ul3.take (n + j)) + 4294967296 ^ (n + j) * (t + c) = (val ul0 - 4294967296 ^ j * (y * V)) + 4294967296 ^ (n + j) * 4294967296 := by
    rw [Nat.mul_add, ← Nat.pow_succ]; omega
  have h5 : 4294967296 ≤ t + c := by
    apply Classical.byContradiction
    intro hh
    have : 4294967296 ^ (n + j) * (t + c + 1) ≤ 4294967296 ^ (n + j) * 4294967296 := Nat.mul_le_mul_left _ (by omega)
    rw [Nat.mul_add _ (t + c)] at this
    omega
  have h6 : t + c = 4294967296 := by omega
  rw [h6] at h4 ⊢
  refine ⟨lim_set hl3 _ _ (by omega), ?_⟩
  have h7 := val_set (x := 4294967296 % 4294967296) hul
  rw [← ht, Nat.mod_self, Nat.mul_zero, Nat.add_zero] at h7
  rw [Nat.mod_self]
  omega
theorem kn_next {ql : List Nat} {U0 : Nat} (hV : 0 < V) (hx : x = val ul0 / 4294967296 ^ j / V) (h : val ul + 4294967296 ^ j * (x * V) = val ul0) (hj : j < ql.length)
    (hv : val ul0 + V * 4294967296 ^ (j + 1) * val (ql.drop (j + 1)) = U0) :
    val ul + V * 4294967296 ^ j * val ((ql.set j x).drop j) = U0 ∧ val ul < V * 4294967296 ^ j := by
  constructor
  · rw [drop_set_self hj, ← hv, ← h, Nat.mul_add]
    have e1 : V * 4294967296 ^ j * x = 4294967296 ^ j * (x * V) := by simp only [Nat.mul_assoc, Nat.mul_left_comm, Nat.mul_comm]
    have e2 : V * 4294967296 ^ j * (4294967296 * val (ql.drop (j + 1))) = V * 4294967296 ^ (j + 1) * val (ql.drop (j + 1)) := by
      rw [Nat.pow_succ]; simp only [Nat.mul_assoc]
    rw [e1, e2]; omega
  · have h1 : val ul0 / 4294967296 ^ j < (x + 1) * V := by
      rw [← Nat.div_lt_iff_lt_mul hV, hx]; omega
    rw [Nat.div_lt_iff_lt_mul (powpos j)] at h1
    have e : (x + 1) * V * 4294967296 ^ j = 4294967296 ^ j * (x * V) + V * 4294967296 ^ j := by
      rw [Nat.add_mul, Nat.add_mul, Nat.one_mul, Nat.mul_comm (x * V)]
    rw [e] at h1; omega
end

/-! ### Before and after -/
theorem pow_le_of {s : Nat} (hs : s < 32) : 2 ^ s ≤ 2147483648 := Nat.pow_le_pow_right (n := 2) (by omega) (show s ≤ 31 by omega)
theorem kn_shift {top : Nat} (h0 : 0 < top) (h : top < 4294967296) : 2147483648 ≤ top * 2 ^ (32 - blen top) ∧ top * 2 ^ (32 - blen top) < 4294967296 := by
  have h1 : blen top ≤ 32 := blen_le.2 h
  have h2 : 1 ≤ blen top := by
    rcases Nat.eq_zero_or_pos (blen top) with e | e
    · exact absurd (blen_zero.1 e) (by omega)
    · exact e
  have h3 : 2 ^ (blen top - 1) ≤ top := blen_lt.1 (by omega)
  have h4 : top < 2 ^ blen top := blen_le.1 (Nat.le_refl _)
  constructor
  · have := Nat.mul_le_mul_right (2 ^ (32 - blen top)) h3
    rw [← Nat.pow_add, show blen top - 1 + (32 - blen top) = 31 by omega] at this
    exact this
  · have := Nat.mul_lt_mul_of_pos_right h4 (Nat.pow_pos (n := 32 - blen top) (show 0 < 2 by omega))
    rw [← Nat.pow_add, show blen top + (32 - blen top) = 32 by omega] at this
    exact this
theorem kn_norm {Bv n s : Nat} (hn : (dig Bv).length = n + 1) (hs : s = 32 - blen ((dig Bv).getD n 0)) : s < 32 ∧ (dig (Bv * 2 ^ s)).length = n + 1 ∧ 2147483648 * 4294967296 ^ n ≤ Bv * 2 ^ s ∧ Bv * 2 ^ s < 4294967296 ^ (n + 1) := by
  have hne := can_getLast (can_dig Bv) (by omega : 0 < (dig Bv).length)
  rw [hn, Nat.add_sub_cancel] at hne
  have hlim := getD_dig_lt Bv n
  obtain ⟨h1, h2⟩ := kn_shift (Nat.pos_of_ne_zero hne) hlim
  rw [← hs] at h1 h2
  have hv : Bv = 4294967296 ^ n * (dig Bv).getD n 0 + val ((dig Bv).take n) := by
    have := val_split (dig Bv) n (by omega)
    rw [val_drop (by omega), show (dig Bv).drop (n + 1) = [] from List.drop_of_length_le (by omega), val_dig] at this
    simp only [val, Nat.mul_zero, Nat.add_zero] at this
    omega
  have hlow : val ((dig Bv).take n) < 4294967296 ^ n := val_lt_len (lim_take (lim_dig Bv) _) (by simp; omega)
  have hge : 2147483648 * 4294967296 ^ n ≤ Bv * 2 ^ s := by
    have := Nat.mul_le_mul_left (4294967296 ^ n) h1
    have e : 4294967296 ^ n * ((dig Bv).getD n 0 * 2 ^ s) ≤ Bv * 2 ^ s := by
      rw [← Nat.mul_assoc]; exact Nat.mul_le_mul_right _ (by omega)
    rw [Nat.mul_comm] at this; omega
  have hlt : Bv * 2 ^ s < 4294967296 ^ (n + 1) := by
    have hp : 0 < 2 ^ s := Nat.pow_pos (by omega)
    have e1 : Bv < 4294967296 ^ n * ((dig Bv).getD n 0 + 1) := by rw [Nat.mul_add]; omega
    have e2 := Nat.mul_lt_mul_of_pos_right e1 hp
    have e3 : (dig Bv).getD n 0 * 2 ^ s + 2 ^ s ≤ 4294967296 := by
      have hs32 : s ≤ 32 := by omega
      have hd : 4294967296 = 2 ^ (32 - s) * 2 ^ s := by rw [← Nat.pow_add, show 32 - s + s = 32 by omega]
      rw [hd] at h2 ⊢
      have := Nat.lt_of_mul_lt_mul_right h2
      have := Nat.mul_le_mul_right (2 ^ s) this
      rw [Nat.succ_mul] at this
      exact this
    rw [Nat.mul_assoc, Nat.add_mul, Nat.one_mul] at e2
    have e4 := Nat.mul_le_mul_left (4294967296 ^ n) e3
    rw [Nat.pow_succ]; omega
  refine ⟨?_, ?_, hge, hlt⟩
  · rcases Nat.eq_zero_or_pos (blen ((dig Bv).getD n 0)) with e | e
    · exact absurd (blen_zero.1 e) hne
    · omega
  · have h3 := dig_length_le hlt
    have h4 : n < (dig (Bv * 2 ^ s)).length := by
      apply Classical.byContradiction
      intro hh
      have := dig_length_ge (n := Bv * 2 ^ s) (k := n) (by omega)
      have := Nat.mul_le_mul_right (4294967296 ^ n) (show 1 ≤ 2147483648 by omega)
      omega
    omega
theorem kn_vt {V n : Nat} (hn : (dig V).length = n + 1) (hge : 2147483648 * 4294967296 ^ n ≤ V) : 2147483648 ≤ (dig V).getD n 0 := by
  have hv := val_split (dig V) n (by omega)
  rw [val_drop (by omega), show (dig V).drop (n + 1) = [] from List.drop_of_length_le (by omega), val_dig] at hv
  simp only [val, Nat.mul_zero, Nat.add_zero] at hv
  have hlow : val ((dig V).take n) < 4294967296 ^ n := val_lt_len (lim_take (lim_dig V) _) (by simp; omega)
  apply Classical.byContradiction
  intro hh
  have := Nat.mul_le_mul_left (4294967296 ^ n) (show (dig V).getD n 0 + 1 ≤ 2147483648 by omega)
  rw [Nat.mul_add, Nat.mul_comm _ 2147483648] at this
  omega
theorem kn_start {A Bv s n m : Nat} (hs : s < 32) (hm : (dig A).length = m) (hnm : n + 1 ≤ m) (hge : 2147483648 * 4294967296 ^ n ≤ Bv * 2 ^ s) : A * 2 ^ s < Bv * 2 ^ s * 4294967296 ^ (m + 1 - (n + 1)) ∧ A * 2 ^ s < 4294967296 ^ (m + 1) := by
  have hA : A < 4294967296 ^ m := dig_length_ge (by omega)
  have hp := pow_le_of hs
  have h1 : A * 2 ^ s < 4294967296 ^ m * 2147483648 := Nat.lt_of_lt_of_le (Nat.mul_lt_mul_of_pos_right hA (Nat.pow_pos (by omega))) (Nat.mul_le_mul_left _ hp)
  constructor
  · have h2 := Nat.mul_le_mul_right (4294967296 ^ (m + 1 - (n + 1))) hge
    rw [Nat.mul_assoc, ← Nat.pow_add, show n + (m + 1 - (n + 1)) = m by omega] at h2
    omega
  · rw [Nat.pow_succ]; exact Nat.lt_trans h1 (Nat.mul_lt_mul_of_pos_left (by omega) (powpos m))
theorem kn_end {A Bv s : Nat} {ul ql : List Nat} (hB : 0 < Bv) (h : val ul + Bv * 2 ^ s * val ql = A * 2 ^ s) (hlt : val ul < Bv * 2 ^ s) : val ql = A / Bv ∧ val ul = A % Bv * 2 ^ s := by
  have hp : 0 < 2 ^ s := Nat.pow_pos (by omega)
  have h1 : val ul = A * 2 ^ s % (Bv * 2 ^ s) := by
    rw [← h, Nat.add_mul_mod_self_left, Nat.mod_eq_of_lt hlt]
  have h2 : val ql = A * 2 ^ s / (Bv * 2 ^ s) := by
    rw [← h, Nat.add_mul_div_left _ _ (by exact Nat.mul_pos hB hp), Nat.div_eq_of_lt hlt, Nat.zero_add]
  rw [Nat.mul_mod_mul_right] at h1
  rw [Nat.mul_div_mul_right _ _ hp] at h2
  exact ⟨h2, h1⟩

/-! ### The rest, shifted back -/
theorem sh_inv {i s : Nat} {w o : List Nat} (hi : i < w.length) (hs : s < 32) (hd : w.getD i 0 = o.getD i 0) (hv : 2 ^ s * val (w.take i) = val (o.take i) + 4294967296 ^ i * (o.getD i 0 % 2 ^ s)) {y : Nat} (hy : y = o.getD i 0 / 2 ^ s + o.getD (i + 1) 0 % 2 ^ s * 2 ^ (32 - s)) :
    2 ^ s * val ((w.set i y).take (i + 1)) = val (o.take (i + 1)) + 4294967296 ^ (i + 1) * (o.getD (i + 1) 0 % 2 ^ s) := by
  rw [val_set_take _ _ _ hi, val_take_succ' o, Nat.mul_add, hv, Nat.pow_succ]
  have h1 := Nat.div_add_mod (o.getD i 0) (2 ^ s)
  have h2 : 2 ^ s * (o.getD (i + 1) 0 % 2 ^ s * 2 ^ (32 - s)) = 4294967296 * (o.getD (i + 1) 0 % 2 ^ s) := by
    rw [Nat.mul_left_comm, ← Nat.pow_add, show s + (32 - s) = 32 by omega, Nat.mul_comm]
  have h3 : 2 ^ s * (4294967296 ^ i * y) = 4294967296 ^ i * (2 ^ s * (o.getD i 0 / 2 ^ s)) + 4294967296 ^ i * 4294967296 * (o.getD (i + 1) 0 % 2 ^ s) := by
    rw [Nat.mul_left_comm, hy, Nat.mul_add, h2, Nat.mul_add, Nat.mul_assoc]
  have h4 : 4294967296 ^ i * o.getD i 0 = 4294967296 ^ i * (2 ^ s * (o.getD i 0 / 2 ^ s)) + 4294967296 ^ i * (o.getD i 0 % 2 ^ s) := by rw [← Nat.mul_add, h1]
  omega

section
variable {a b s x c : Nat}
theorem andU : binI .and .u64 (a : Nat) 4294967295 = some (.int .u64 ((a % 4294967296 : Nat) : Int)) := by
  have e : (BitVec.ofInt IntKind.u64.bits (a : Int) &&& BitVec.ofInt IntKind.u64.bits (4294967295 : Int)).toNat = a % 4294967296 := by
    have h1 : (4294967295 : Int) = ((4294967295 : Nat) : Int) := rfl
    rw [h1, bv_nat, bv_nat, BitVec.toNat_and, BitVec.toNat_ofNat, BitVec.toNat_ofNat]
    have h2 : 4294967295 % 2 ^ IntKind.u64.bits = 2 ^ 32 - 1 := rfl
    rw [h2, Nat.and_two_pow_sub_one_eq_mod]
    show a % 18446744073709551616 % 4294967296 = a % 4294967296
    omega
  simp only [binI, e]
  rw [IntWalk.u64_in _ (by omega)]
theorem addU32 : binI .add .u32 (a : Nat) (b : Nat) = some (.int .u32 (((a + b) % 4294967296 : Nat) : Int)) := by
  simp only [binI]; rw [IntKind.wrap_u32]; congr 2
theorem shlV32 (hs : s ≤ 32) : shI .shl .u32 (a : Nat) ((s : Nat) : Int) = some (.int .u32 ((a % 2 ^ (32 - s) * 2 ^ s : Nat) : Int)) := by
  have e : min ((s : Int)).toNat IntKind.u32.bits = s := by show min s 32 = s; omega
  have e2 : (a : Int) * 2 ^ s = ((a * 2 ^ s : Nat) : Int) := by simp
  simp only [shI]
  rw [if_neg (by omega), e, e2, wrap32]
  congr 3
  have : 4294967296 = 2 ^ (32 - s) * 2 ^ s := by rw [← Nat.pow_add, show 32 - s + s = 32 by omega]
  rw [this, Nat.mul_mod_mul_right]
theorem orV32 (hc : c < 2 ^ s) (h : x * 2 ^ s + c < 4294967296) : binI .or .u32 (c : Nat) ((x * 2 ^ s : Nat) : Int) = some (.int .u32 ((x * 2 ^ s + c : Nat) : Int)) := by
  have e : (BitVec.ofInt IntKind.u32.bits (c : Int) ||| BitVec.ofInt IntKind.u32.bits ((x * 2 ^ s : Nat) : Int)).toNat = x * 2 ^ s + c := by
    rw [bv_nat, bv_nat, BitVec.toNat_or, BitVec.toNat_ofNat, BitVec.toNat_ofNat]
    have e1 : x * 2 ^ s % 2 ^ IntKind.u32.bits = x * 2 ^ s := Nat.mod_eq_of_lt (by show _ < 4294967296; omega)
    have e2 : c % 2 ^ IntKind.u32.bits = c := Nat.mod_eq_of_lt (by show _ < 4294967296; omega)
    rw [e1, e2, Nat.or_comm]
    have := Nat.shiftLeft_add_eq_or_of_lt (i := s) (b := c) hc x
    rw [Nat.shiftLeft_eq] at this
    exact this.symm
  simp only [binI, e]
  rw [IntWalk.u32_in _ (by omega)]
theorem half_lt {s y z : Nat} (hs : s ≤ 32) (hy : y < 4294967296) : y / 2 ^ s < 2 ^ (32 - s) ∧ z % 2 ^ s * 2 ^ (32 - s) + y / 2 ^ s < 4294967296 := by
  have hd : 4294967296 = 2 ^ (32 - s) * 2 ^ s := by rw [← Nat.pow_add, show 32 - s + s = 32 by omega]
  have hp : 0 < 2 ^ s := Nat.pow_pos (by omega)
  have h1 : y / 2 ^ s < 2 ^ (32 - s) := by rw [Nat.div_lt_iff_lt_mul hp]; omega
  refine ⟨h1, ?_⟩
  have h2 := Nat.mod_lt z hp
  have h3 : (z % 2 ^ s + 1) * 2 ^ (32 - s) ≤ 2 ^ s * 2 ^ (32 - s) := Nat.mul_le_mul_right _ h2
  rw [Nat.add_mul, Nat.one_mul, Nat.mul_comm (2 ^ s)] at h3
  omega
end
theorem val_zero_getD : ∀ {l : List Nat}, val l = 0 → ∀ p, l.getD p 0 = 0
  | [], _, p => by simp
  | x :: xs, h, p => by
      simp only [val] at h
      have h1 : x = 0 := by omega
      have h2 : val xs = 0 := by omega
      cases p with
      | zero => simpa using h1
      | succ p => simpa using val_zero_getD h2 p
theorem trim_zero {l : List Nat} {n : Nat} (hn : n = l.length) : ∀ p, trimN n l ≤ p → l.getD p 0 = 0 := fun p hp => by
  subst hn
  have h1 := (trimN_spec l.length l (Nat.le_refl _)).2
  rw [List.take_length] at h1
  have h2 := val_split l (trimN l.length l) (trimN_le _ _)
  rw [h1] at h2
  have h3 : val (l.drop (trimN l.length l)) = 0 := by
    rcases Nat.eq_zero_or_pos (val (l.drop (trimN l.length l))) with e | e
    · exact e
    · have := Nat.mul_pos (powpos (trimN l.length l)) e; omega
  have h4 := val_zero_getD h3 (p - trimN l.length l)
  rwa [getD_drop, show trimN l.length l + (p - trimN l.length l) = p by omega] at h4
theorem low_bits {l : List Nat} {r s : Nat} (hs : s ≤ 32) (h : val l = r * 2 ^ s) : l.getD 0 0 % 2 ^ s = 0 := by
  cases l with
  | nil => simp
  | cons x xs =>
    simp only [val] at h
    have hd : 4294967296 = 2 ^ (32 - s) * 2 ^ s := by rw [← Nat.pow_add, show 32 - s + s = 32 by omega]
    have h1 : (x + 4294967296 * val xs) % 2 ^ s = 0 := by rw [h, Nat.mul_mod_left]
    rw [hd, Nat.mul_right_comm, Nat.add_mul_mod_self_right] at h1
    simpa using h1
theorem t0 : (0 : Int).toNat = 0 := rfl
theorem lim_one {x : Nat} (h : x < 4294967296) : Lim [x] := fun y hy => by simp at hy; omega

/-! ### A piece of a body as a theorem of its own -/
def subAt : List Nat → Code → Option Code
  | [], c => some c
  | i :: p, .seq x y => if i = 0 then subAt p x else subAt p y
  | i :: p, .cond _ x y => if i = 0 then subAt p x else subAt p y
  | _ :: p, .block _ c => subAt p c
  | _ :: p, .loop c => subAt p c
  | _, _ => none
def subF (fn : Func) (p : List Nat) : Option Code := fn.body.bind (subAt p)
section
variable {P : Program} {Q : LEx → St → Prop} {L L' : St}
theorem wl_sub {fn : Func} {p : List Nat} {c : Code} (h : subF fn p = some c) (k : wpL P c Q L) : wpL P ((subF fn p).getD .skip) Q L := by rw [h]; exact k
theorem wl_eq {c : Code} (h : L' = L) (k : wpL P c Q L') : wpL P c Q L := by rw [← h]; exact k
end
theorem wl_eqS {P : Program} {Q : LEx → St → Prop} {L : St} {c : Code} {S : St → St} (h : S L = L) (k : wpL P c Q (S L)) : wpL P c Q L := by rw [← h]; exact k
theorem goal_of {Q : LEx → St → Prop} {S L : St} (k : Q .normal S) (h : S = L) : Q .normal L := h ▸ k
end Go.Lg
namespace Go.Lg
theorem hce : (∀ (p : Prop) [Decidable p], (decide p = true) = p) ∧ (∀ (p : Prop) [Decidable p], (decide p = false) = ¬ p) ∧ (∀ {α : Type} [BEq α] [LawfulBEq α] {a b : α}, ((a == b) = true) = (a = b))
    ∧ (∀ {α : Type} [BEq α] [LawfulBEq α] {a b : α}, ((a == b) = false) = ¬ (a = b)) ∧ (∀ {α : Type} [BEq α] [LawfulBEq α] {a b : α}, ((a != b) = true) = ¬ (a = b)) ∧ (∀ {α : Type} [BEq α] [LawfulBEq α] {a b : α}, ((a != b) = false) = (a = b))
    ∧ (∀ (b : Bool), (¬ (b = true)) = (b = false)) ∧ (∀ (b : Bool), ((!b) = true) = (b = false)) ∧ (∀ (b : Bool), ((!b) = false) = (b = true)) ∧ (∀ (a b : Bool), (a = !b) = ¬ (a = b)) ∧ (!true) = false ∧ (!false) = true :=
  ⟨fun _ => by simp, fun _ => by simp, by intros; simp, by intros; simp, by intros; simp, by intros; simp, by simp, by simp, by simp, fun a b => by cases a <;> cases b <;> simp, rfl, rfl⟩
theorem tm0 {p : Prop} (h : p := by first | exact tame rfl | exact tame (limL_pure _) | exact tame (magL_pure _) | exact tame (ratE.pure _) | exact tame (spE.pure _) | exact tame (pure_lst ratE _ _) | exact tame2 (limL_pure _) rfl | exact tame2 (magL_pure _) rfl | exact tame2 (ratE.pure _) rfl | exact tame2 (magL_pure _) (magL_pure _) | exact tame3 (magL_pure _) (magL_pure _) rfl | exact tame2 rfl rfl | exact tame3 rfl rfl rfl | exact tame2 (pure_lst ratE _ _) (pure_lst ratE _ _) | exact tame2 (pure_lst ratE _ _) rfl) : p := h
theorem im0 {p : Prop} (h : p := by first | exact .pure rfl | exact .pure (pure_lst u32E _ _) | exact .pure (magL_pure _) | exact .pure (ratE.pure _) | exact .pure (spE.pure _) | exact .pure (pure_lst ratE _ _) | exact .pure (limL_pure _) | exact .nil _ | exact .pure (pure_lst i64E _ _) | exact .pure (pure_lst spE _ _) | exact .pure (by assumption)) : p := h
theorem im1 {p : Prop} (h : p := by first | exact .pure rfl | exact .pure (pure_lst u32E _ _) | exact .pure (magL_pure _) | exact .pure (ratE.pure _) | exact .pure (spE.pure _) | exact .pure (pure_lst ratE _ _) | exact .pure (limL_pure _) | exact .nil _ | exact .pure (pure_lst i64E _ _) | exact .pure (pure_lst spE _ _) | exact .pure (by assumption) | exact imm_refm u32E rfl rfl (by first | rfl | omega | exact (padL_len _ _).symm | (simp; done) | (simp; omega)) | exact imm_refm ratE rfl rfl (by first | rfl | omega | exact (padL_len _ _).symm | (simp; done) | (simp; omega)) | exact imm_refT u32E rfl rfl (by first | omega | (simp; omega)) | exact imm_refT ratE rfl rfl (by first | omega | (simp; omega))) : p := h
theorem nt0 {p : Prop} (h : p := by first | (simp; done) | exact LV.pure_ne_tup (magL_pure _) | exact LV.pure_ne_tup (ratE.pure _) | exact LV.pure_ne_tup (spE.pure _) | exact LV.pure_ne_tup (limL_pure _) | exact LV.pure_ne_tup (pure_lst ratE _ _) | exact LV.pure_ne_tup (by assumption)) : p := h
theorem ne0 {p : Prop} (h : p := by first | exact ⟨(fun h => by cases h), (fun _ h => by cases h)⟩ | exact ⟨LV.pure_ne_any (ratE.pure _), LV.pure_ne_tup (ratE.pure _)⟩ | exact ⟨LV.pure_ne_any (by assumption), LV.pure_ne_tup (by assumption)⟩) : p := h
theorem shlC32 {a s : Nat} (hs : s ≤ 32) : shI .shl .u32 (a : Nat) (32 - (s : Int)) = some (.int .u32 ((a % 2 ^ s * 2 ^ (32 - s) : Nat) : Int)) := by
  have := shlV32 (a := a) (s := 32 - s) (by omega)
  rw [show 32 - (32 - s) = s by omega] at this
  rwa [show (32 : Int) - (s : Int) = ((32 - s : Nat) : Int) by omega]
end Go.Lg
namespace Go.Lg
def sgI (s : Bool) (n : Nat) : Int := bif s then -(n : Int) else n
theorem sgI_zero (s : Bool) : sgI s 0 = 0 := by cases s <;> rfl
theorem sgI_abs (s : Bool) (n : Nat) : (sgI s n).natAbs = n := by cases s <;> simp [sgI]
theorem sgI_num (q : Rat) : sgI (decide (q < 0)) q.num.natAbs = q.num := by
  have h : (q < 0) ↔ q.num < 0 := by rw [← Rat.not_le, ← Rat.num_nonneg]; omega
  by_cases hq : q < 0
  · have := h.1 hq; simp only [hq, decide_true, sgI, cond_true]; omega
  · have h2 : ¬ q.num < 0 := fun x => hq (h.2 x)
    simp only [hq, decide_false, sgI, cond_false]; omega
theorem sgI_lt (s : Bool) {n : Nat} (hn : 0 < n) : decide (sgI s n < 0) = s := by
  cases s
  · rw [decide_eq_false_iff_not]; simp only [sgI, cond_false]; omega
  · rw [decide_eq_true_eq]; simp only [sgI, cond_true]; omega
theorem rat_lt0 (q : Rat) : (q < 0) ↔ q.num < 0 := by rw [← Rat.not_le, ← Rat.num_nonneg]; omega
/-- the value of a sign, a numerator and a denominator (0 over a denominator 0) -/
def qv (s : Bool) (n d : Nat) : Rat := mkRat (sgI s n) d
theorem qv_num (s : Bool) {n d : Nat} (hn : 0 < n) (hd : 0 < d) : (qv s n d).num.natAbs = n / n.gcd d := by
  rw [qv, Rat.num_mkRat, if_neg (by omega), sgI_abs, Nat.gcd_comm]
  have h : ((n.gcd d : Nat) : Int) ∣ sgI s n := by
    cases s
    · exact Int.natCast_dvd_natCast.2 (Nat.gcd_dvd_left _ _)
    · exact (Int.dvd_neg.2 (Int.natCast_dvd_natCast.2 (Nat.gcd_dvd_left _ _)))
  rw [Int.natAbs_ediv_of_dvd h, sgI_abs]
  simp
theorem qv_den (s : Bool) (n : Nat) {d : Nat} (hd : 0 < d) : (qv s n d).den = d / n.gcd d := by
  rw [qv, Rat.den_mkRat, if_neg (by omega), sgI_abs, Nat.gcd_comm]
theorem qv_lt (s : Bool) {n d : Nat} (hn : 0 < n) (hd : 0 < d) : decide (qv s n d < 0) = s := by
  have h1 : (qv s n d).num = sgI s n / (n.gcd d : Nat) := by rw [qv, Rat.num_mkRat, if_neg (by omega), sgI_abs, Nat.gcd_comm]
  have hg : 0 < n.gcd d := Nat.gcd_pos_of_pos_left _ hn
  have h2 := qv_num s hn hd
  have h3 : n / n.gcd d ≠ 0 := by
    have := Nat.div_pos (Nat.le_of_dvd hn (Nat.gcd_dvd_left n d)) hg; omega
  cases s
  · have : 0 ≤ (qv false n d).num := by rw [h1]; exact Int.ediv_nonneg (by simp [sgI]) (by omega)
    simp only [decide_eq_false_iff_not]; rw [rat_lt0]; omega
  · have : (qv true n d).num ≤ 0 := by
      rw [h1]; simp only [sgI, cond_true]
      have hd' : ((n.gcd d : Nat) : Int) ∣ (n : Int) := Int.natCast_dvd_natCast.2 (Nat.gcd_dvd_left _ _)
      rw [Int.neg_ediv_of_dvd hd']
      have := Int.ediv_nonneg (a := (n:Int)) (b := (n.gcd d : Nat)) (by omega) (by omega)
      omega
    simp only [decide_eq_true_eq]; rw [rat_lt0]; omega
theorem qv_zero (s : Bool) (d : Nat) : qv s 0 d = 0 := by rw [qv, sgI_zero, Rat.zero_mkRat]
theorem qv_den0 (s : Bool) (n : Nat) : qv s n 0 = 0 := by rw [qv]; simp
theorem qv_self (q : Rat) : qv (decide (q < 0)) q.num.natAbs q.den = q := by rw [qv, sgI_num, Rat.mkRat_self]
/-- the number with another sign -/
def sgR (s : Bool) (q : Rat) : Rat := qv s q.num.natAbs q.den
theorem sgR_self (q : Rat) : sgR (decide (q < 0)) q = q := qv_self q
theorem sgI_not (s : Bool) (n : Nat) : sgI (!s) n = - sgI s n := by cases s <;> simp [sgI]
theorem sgR_not (q : Rat) : sgR (!decide (q < 0)) q = -q := by
  rw [sgR, qv, sgI_not, ← Rat.neg_mkRat, sgI_num, Rat.mkRat_self]
theorem qv_mul (s t : Bool) (n d m e : Nat) : qv s n d * qv t m e = qv (s != t) (n * m) (d * e) := by
  simp only [qv, Rat.mkRat_mul_mkRat]
  congr 1
  cases s <;> cases t <;> simp [sgI, Int.mul_neg, Int.neg_mul]
theorem qv_add_same (s : Bool) {n d m e : Nat} (hd : 0 < d) (he : 0 < e) : qv s n d + qv s m e = qv s (n * e + m * d) (d * e) := by
  simp only [qv]; rw [Rat.mkRat_add_mkRat _ _ (by omega) (by omega)]
  congr 1
  cases s <;> simp [sgI, Int.neg_mul] <;> omega
theorem qv_add_ne (s t : Bool) {n d m e : Nat} (hd : 0 < d) (he : 0 < e) (hst : s ≠ t) (h : m * d ≤ n * e) : qv s n d + qv t m e = qv s (n * e - m * d) (d * e) := by
  simp only [qv]; rw [Rat.mkRat_add_mkRat _ _ (by omega) (by omega)]
  congr 1
  cases s <;> cases t <;> simp_all [sgI, Int.neg_mul] <;> omega
theorem qv_add_ne' (s t : Bool) {n d m e : Nat} (hd : 0 < d) (he : 0 < e) (hst : s ≠ t) (h : n * e ≤ m * d) : qv s n d + qv t m e = qv t (m * d - n * e) (d * e) := by
  simp only [qv]; rw [Rat.mkRat_add_mkRat _ _ (by omega) (by omega)]
  congr 1
  cases s <;> cases t <;> simp_all [sgI, Int.neg_mul] <;> omega
theorem rat_inv_neg (x : Rat) : (-x)⁻¹ = -x⁻¹ := by grind
theorem qv_inv (s : Bool) (n d : Nat) : (qv s n d)⁻¹ = qv s d n := by
  have h0 : (qv false n d)⁻¹ = qv false d n := by
    simp only [qv, Rat.mkRat_eq_div, sgI, cond_false]
    rw [Rat.div_def, Rat.inv_mul_rev, Rat.inv_inv, Rat.div_def]
    rfl
  cases s
  · exact h0
  · have e : ∀ n d : Nat, qv true n d = - qv false n d := fun n d => by simp only [qv, sgI, cond_true, cond_false, Rat.neg_mkRat]
    rw [e, e, rat_inv_neg, h0]
theorem qv_div (s t : Bool) (n d m e : Nat) : qv s n d / qv t m e = qv (s != t) (n * e) (d * m) := by
  rw [Rat.div_def, qv_inv, qv_mul]
theorem qv_scale (s : Bool) {n d k : Nat} (hk : 0 < k) : qv s (n * k) (d * k) = qv s n d := by
  by_cases hd : d = 0
  · subst hd; simp [qv_den0]
  simp only [qv]
  rw [Rat.mkRat_eq_iff (by have := Nat.mul_pos (Nat.pos_of_ne_zero hd) hk; omega) hd]
  cases s <;> simp [sgI] <;> grind
theorem qv_same_den (s t : Bool) (n m d : Nat) (hd : 0 < d) : qv s (n * d) (d * d) = qv s n d := qv_scale s hd
theorem denN_eq (q : Rat) : denN q = if q.den = 1 then 0 else q.den := rfl
/-- the limbs of numerator and denominator -/
def rl (q : Rat) : Nat := max (dig q.num.natAbs).length (dig q.den).length
theorem rl_num (q : Rat) : (dig q.num.natAbs).length ≤ rl q := Nat.le_max_left _ _
theorem rl_den (q : Rat) : (dig q.den).length ≤ rl q := Nat.le_max_right _ _
theorem rl_denN (q : Rat) : (dig (denN q)).length ≤ rl q := by
  rw [denN_eq]; split
  · simp [dig_zero]
  · exact rl_den q
theorem rl_le {q : Rat} {k : Nat} (hn : q.num.natAbs < 4294967296 ^ k) (hd : q.den < 4294967296 ^ k) : rl q ≤ k :=
  Nat.max_le.2 ⟨dig_length_le hn, dig_length_le hd⟩
theorem rl_lt (q : Rat) : q.num.natAbs < 4294967296 ^ rl q ∧ q.den < 4294967296 ^ rl q := ⟨dig_length_ge (rl_num q), dig_length_ge (rl_den q)⟩
theorem rl_pos (q : Rat) : 1 ≤ rl q := by
  have := rl_den q
  have h : dig q.den ≠ [] := fun h => q.den_nz (dig_eq_nil.1 h)
  have := List.length_pos_iff.2 h
  omega
theorem rl_qv (s : Bool) {n d k : Nat} (hn : n < 4294967296 ^ k) (hd : d < 4294967296 ^ k) : rl (qv s n d) ≤ max k 1 := by
  by_cases hd0 : d = 0
  · subst hd0; rw [qv_den0]; exact Nat.le_trans (Nat.le_of_eq (by rfl)) (Nat.le_max_right _ _)
  by_cases hn0 : n = 0
  · subst hn0; rw [qv_zero]; exact Nat.le_trans (Nat.le_of_eq (by rfl)) (Nat.le_max_right _ _)
  refine Nat.le_trans (rl_le (k := k) ?_ ?_) (Nat.le_max_left _ _)
  · rw [qv_num s (by omega) (by omega)]; exact Nat.lt_of_le_of_lt (Nat.div_le_self _ _) hn
  · rw [qv_den s n (by omega)]; exact Nat.lt_of_le_of_lt (Nat.div_le_self _ _) hd
theorem rl_neg (q : Rat) : rl (-q) = rl q := by simp [rl]
theorem pow_lt_add {x y a b : Nat} (hx : x < 4294967296 ^ a) (hy : y < 4294967296 ^ b) : x * y < 4294967296 ^ (a + b) := by
  rw [Nat.pow_add]; exact Nat.mul_lt_mul'' hx hy
theorem rl_mul (a b : Rat) : rl (a * b) ≤ rl a + rl b := by
  have ha := rl_lt a
  have hb := rl_lt b
  have := rl_qv (decide (a < 0) != decide (b < 0)) (pow_lt_add ha.1 hb.1) (pow_lt_add ha.2 hb.2)
  rw [← qv_mul, qv_self, qv_self] at this
  have := rl_pos a
  omega
theorem rl_div (a b : Rat) : rl (a / b) ≤ rl a + rl b := by
  have ha := rl_lt a
  have hb := rl_lt b
  have := rl_qv (decide (a < 0) != decide (b < 0)) (pow_lt_add ha.1 hb.2) (pow_lt_add ha.2 hb.1)
  rw [← qv_div, qv_self, qv_self] at this
  have := rl_pos a
  omega
theorem add_pow_lt {x y k : Nat} (hx : x < 4294967296 ^ k) (hy : y < 4294967296 ^ k) : x + y < 4294967296 ^ (k + 1) := by
  rw [Nat.pow_succ]; omega
theorem rl_add (a b : Rat) : rl (a + b) ≤ rl a + rl b + 1 := by
  have ha := rl_lt a
  have hb := rl_lt b
  have hd := pow_lt_add ha.2 hb.2
  have hd' : a.den * b.den < 4294967296 ^ (rl a + rl b + 1) := Nat.lt_trans hd (Nat.pow_lt_pow_right (by omega) (by omega))
  have h1 := pow_lt_add ha.1 hb.2
  have h2 := pow_lt_add ha.2 hb.1
  have hs := add_pow_lt h1 h2
  have key : ∀ n, n ≤ a.num.natAbs * b.den + a.den * b.num.natAbs → ∀ s, a + b = qv s n (a.den * b.den) → rl (a + b) ≤ rl a + rl b + 1 := by
    intro n hn s e
    rw [e]
    have := rl_qv s (Nat.lt_of_le_of_lt hn hs) hd'
    omega
  rw [Nat.mul_comm a.den b.num.natAbs] at key
  by_cases hst : decide (a < 0) = decide (b < 0)
  · refine key _ (Nat.le_refl _) (decide (a < 0)) ?_
    have := qv_add_same (decide (a < 0)) (n := a.num.natAbs) (m := b.num.natAbs) a.den_pos b.den_pos
    rw [← this, qv_self, hst, qv_self]
  · rcases Nat.le_total (b.num.natAbs * a.den) (a.num.natAbs * b.den) with h | h
    · refine key (a.num.natAbs * b.den - b.num.natAbs * a.den) (by omega) (decide (a < 0)) ?_
      have := qv_add_ne _ _ a.den_pos b.den_pos hst h
      rw [← this, qv_self, qv_self]
    · refine key (b.num.natAbs * a.den - a.num.natAbs * b.den) (by omega) (decide (b < 0)) ?_
      have := qv_add_ne' _ _ a.den_pos b.den_pos hst h
      rw [← this, qv_self, qv_self]
theorem rl_sub (a b : Rat) : rl (a - b) ≤ rl a + rl b + 1 := by
  have := rl_add a (-b)
  rw [rl_neg] at this
  rwa [Rat.sub_eq_add_neg]
theorem ratL_qv (s : Bool) {n d : Nat} (hn : 0 < n) (hd : 0 < d) : ratL (qv s n d) = .agg [.v (.bool s), magL (n / n.gcd d), magL (if d / n.gcd d = 1 then 0 else d / n.gcd d)] := by
  rw [ratL_eq, qv_lt s hn hd, qv_num s hn hd, denN_eq, qv_den s n hd]
/-- -1, 0 or 1, as a is less than b, equal or greater -/
def cmpR (a b : Rat) : Int := if a < b then -1 else if b < a then 1 else 0
section
variable {P : Program} {H : Heap} {ρ : Operand → LV} {T : TypeId} {p x : Operand} {b i d sz : Nat} {q : Rat} {vals : List LV} {m ag : Bool} {α : Type} {e : α → LV} {a : α}
theorem OpP.ldNeg (hp : ρ p = .eptr b 3 i 0) (hb : H b = some ⟨3, vals, m⟩) (hi : vals[i]? = some (ratL q)) (hT : TyIs P T 1 false) : OpP P H ρ (.load T p) (.v (.bool (decide (q < 0)))) := .loadE hp hb rfl hi (ratE.csize _) (ratL_neg q) hT
theorem OpP.ldNum (hp : ρ p = .eptr b 3 i 1) (hb : H b = some ⟨3, vals, m⟩) (hi : vals[i]? = some (ratL q)) (hT : TyIs P T 1 false) : OpP P H ρ (.load T p) (magL q.num.natAbs) := .loadE hp hb rfl hi (ratE.csize _) (ratL_num q) hT
theorem OpP.ldDen (hp : ρ p = .eptr b 3 i 2) (hb : H b = some ⟨3, vals, m⟩) (hi : vals[i]? = some (ratL q)) (hT : TyIs P T 1 false) : OpP P H ρ (.load T p) (magL (denN q)) := .loadE hp hb rfl hi (ratE.csize _) (ratL_den q) hT
theorem OpP.ldRat (hp : ρ p = .eptr b 3 i 0) (hb : H b = some ⟨3, vals, m⟩) (hi : vals[i]? = some (ratL q)) (hT : TyIs P T 3 true) : OpP P H ρ (.load T p) (ratL q) := .loadE hp hb rfl hi (ratE.csize _) (ratL_all q) hT
theorem OpA.boxE (he : EncOK e sz ag) (hx : ρ x = e a) : OpA P ρ d (.box T x) (.eptr d sz 0 0) ⟨sz, [e a], true⟩ := by
  have h := OpA.box (P := P) (ρ := ρ) (d := d) (T := T) (x := x) (by rw [hx]; exact ⟨fun h => by have := he.pure a; rw [h] at this; simp [LV.pure] at this, LV.pure_ne_tup (he.pure a)⟩)
  rwa [hx, he.csize] at h
theorem OpA.allocE (he : EncOK e sz ag) (hz : ZeroOK P T (e a)) : OpA P ρ d (.alloc T) (.eptr d sz 0 0) ⟨sz, [e a], true⟩ := by
  have h := OpA.alloc (ρ := ρ) (d := d) hz
  rwa [he.csize] at h
end
section
variable {P : Program} {L : St} {dst : Option Nat} {T : TypeId} {p x : Operand} {b : Nat} {q : Rat} {zs : List LV}
theorem OpT.stRat (hp : L.ev p = .eptr b 3 0 0) (hb : L.heap b = some ⟨3, [.agg zs], true⟩) (hz : csizes zs = 3) (hx : L.ev x = ratL q) (hT : TyIs P T 3 true) :
    OpT P L dst (.store T p x) ((L.setB b (some ⟨3, [ratL q], true⟩)).put dst .any) := by
  have h := OpT.store (P := P) (dst := dst) (T := T) (p := p) (x := x) (y := .agg zs) (y' := ratL q) hp hb rfl rfl rfl (by simp [LV.csize, hz])
    (by rw [hx]; simp [LV.put, hz, ratE.csize, ratE.isAgg]) (by rw [hx, ratE.csize, ratE.isAgg]; exact hT)
    (by rw [hx]; exact ⟨fun h => by have := ratE.pure q; rw [h] at this; simp [LV.pure] at this, LV.pure_ne_tup (ratE.pure q)⟩)
  exact h
end
section
variable {P : Program} {H : Heap} {ρ : Operand → LV} {T : TypeId} {p x y : Operand} {b i d sz : Nat} {s : Rat × Rat} {vals : List LV} {m ag : Bool} {q r : Rat}
theorem OpP.ldLo (hp : ρ p = .eptr b 6 i 0) (hb : H b = some ⟨6, vals, m⟩) (hi : vals[i]? = some (spL s)) (hT : TyIs P T 3 true) : OpP P H ρ (.load T p) (ratL s.1) := .loadE hp hb rfl hi (spE.csize _) (spL_lo s) hT
theorem OpP.ldHi (hp : ρ p = .eptr b 6 i 3) (hb : H b = some ⟨6, vals, m⟩) (hi : vals[i]? = some (spL s)) (hT : TyIs P T 3 true) : OpP P H ρ (.load T p) (ratL s.2) := .loadE hp hb rfl hi (spE.csize _) (spL_hi s) hT
theorem OpP.ldSp (hp : ρ p = .eptr b 6 i 0) (hb : H b = some ⟨6, vals, m⟩) (hi : vals[i]? = some (spL s)) (hT : TyIs P T 6 true) : OpP P H ρ (.load T p) (spL s) := .loadE hp hb rfl hi (spE.csize _) (spL_all s) hT
theorem OpP.buildSp (hT : StructLay P T [(3, true), (3, true)]) (hz : ZeroOK P T (.agg [ratL 0, ratL 0])) (hx : ρ x = ratL q) (hy : ρ y = ratL r) : OpP P H ρ (.build T #[(0, x), (1, y)]) (spL (q, r)) := by
  have := OpP.build (P := P) (H := H) (ρ := ρ) (T := T) (ps := #[(0, x), (1, y)]) (zs := [ratL 0, ratL 0]) (by simpa [lay, ratE.csize, ratE.isAgg] using hT) hz (by
    simp only [List.forall_mem_cons]
    exact ⟨⟨_, rfl, by simp [lay, hx, ratE.csize, ratE.isAgg], by rw [hx]; exact ⟨LV.pure_ne_any (ratE.pure _), LV.pure_ne_tup (ratE.pure _)⟩⟩, ⟨_, rfl, by simp [lay, hy, ratE.csize, ratE.isAgg], by rw [hy]; exact ⟨LV.pure_ne_any (ratE.pure _), LV.pure_ne_tup (ratE.pure _)⟩⟩, fun _ h => by cases h⟩)
  rw [spL_eq]
  simpa [buildL, hx, hy] using this
theorem OpT.stSp {L : St} {dst : Option Nat} {s0 : Rat × Rat} (hp : L.ev p = .eptr b 6 0 0) (hb : L.heap b = some ⟨6, [spL s0], true⟩) (hx : L.ev x = spL s) (hT : TyIs P T 6 true) :
    OpT P L dst (.store T p x) ((L.setB b (some ⟨6, [spL s], true⟩)).put dst .any) := by
  have h0 : LV.put (spL s0) 0 (L.ev x) = some (spL s) := by
    rw [hx, spL_eq s0]
    simp [LV.put, spE.csize, spE.isAgg, csizes, LV.csize, ratE.csize]
  have h := OpT.store (P := P) (dst := dst) (T := T) (p := p) (x := x) (y := spL s0) (y' := spL s) hp hb rfl rfl rfl (spE.csize _) h0 (by rw [hx, spE.csize, spE.isAgg]; exact hT)
    (by rw [hx]; exact ⟨LV.pure_ne_any (spE.pure s), LV.pure_ne_tup (spE.pure s)⟩)
  exact h
theorem OpP.faSp {k : Nat} (hp : ρ p = .boxp (spL s)) (hT : StructLay P T [(3, true), (3, true)]) (hk : k < 2) : OpP P H ρ (.fieldAddr T p k) (.boxp (ratL (if k = 0 then s.1 else s.2))) := by
  refine .fieldAddrB (fs := [ratL s.1, ratL s.2]) (by rw [hp, spL_eq]) (by simpa [lay, ratE.csize, ratE.isAgg] using hT) ?_
  match k, hk with
  | 0, _ => rfl
  | 1, _ => rfl
end
theorem imm_refS {L : St} {α : Type} {e : α → LV} {ag : Bool} {bs : List Nat} {b sz off len : Nat} {l l' : List α} {m : Bool} (he : EncOK e sz ag) (hb : L.heap b = some ⟨sz, l.map e, m⟩) (hbs : bs.contains b = true) (hl : off + len ≤ l.length) (h : (l.drop off).take len = l') :
    Imm (L.frz bs).heap (.ref b sz off len) (.list sz (l'.map e)) := by
  have := imm_ref (L := L) (bs := bs) (off := off) (len := len) hb hbs (pures_map he l) (by simpa using hl)
  rwa [← List.map_drop, ← List.map_take, h] at this
theorem max_abs {n : Int} (h1 : -9223372036854775808 < n) (h2 : n ≤ 9223372036854775807) : (if IntKind.i64.wrap (0 - n) > n then IntKind.i64.wrap (0 - n) else n) = ((n.natAbs : Nat) : Int) := by
  rw [IntWalk.i64_in _ (by omega)]; split <;> omega
theorem qv_int (n : Int) : qv (decide (n < 0)) n.natAbs 1 = (n : Rat) := by
  have : sgI (decide (n < 0)) n.natAbs = n := by
    by_cases h : n < 0
    · simp only [h, decide_true, sgI, cond_true]; omega
    · simp only [h, decide_false, sgI, cond_false]; omega
  rw [qv, this, Rat.mkRat_one]
theorem qv_ints (n d : Int) : qv (decide (n < 0) != decide (d < 0)) n.natAbs d.natAbs = (n : Rat) / (d : Rat) := by
  rw [← qv_int n, ← qv_int d, qv_div]; simp
theorem sm_den {q : Rat} (h : q.den < 4294967296) : (dig (denN q)).length ≤ 1 := dig_len_le1.2 (by rw [denN_eq]; split <;> omega)
theorem denN_pos {q : Rat} (h : 0 < (dig (denN q)).length) : denN q = q.den := by
  rw [denN_eq] at h ⊢; split
  · rename_i h1; rw [if_pos h1] at h; simp [dig_zero] at h
  · rfl
theorem denN_zero {q : Rat} (h : (dig (denN q)).length = 0) : q.den = 1 := by
  have h0 := dig_eq_nil.1 (List.eq_nil_of_length_eq_zero h)
  rw [denN_eq] at h0
  have := q.den_pos
  split at h0
  · assumption
  · omega
/-- numerator and denominator have one limb -/
def smB (q : Rat) : Bool := decide (q.num.natAbs < 4294967296 ∧ q.den < 4294967296)
def pN (q : Rat) : Nat := if smB q then q.num.natAbs else 0
def pD (q : Rat) : Nat := if smB q then q.den else 0
def sgnR (a : Rat) : Int := if a = 0 then 0 else if a < 0 then -1 else 1
theorem sgnR_eq (q : Rat) : sgnR q = if q.num.natAbs = 0 then 0 else if q < 0 then -1 else 1 := by
  unfold sgnR
  by_cases h : q = 0
  · subst h; rfl
  · have : ¬ q.num.natAbs = 0 := fun h2 => h (Rat.num_eq_zero.1 (by omega))
    rw [if_neg h, if_neg this]
def putd (l : List Nat) (off n : Nat) : List Nat := if n < 4294967296 then l.set off n else (l.set off (n % 4294967296)).set (off + 1) (n / 4294967296)
def dlen (n : Nat) : Nat := if n < 4294967296 then 1 else 2
theorem dig_dlen {n : Nat} (h0 : 0 < n) (h : n < 18446744073709551616) : (n < 4294967296 ∧ dlen n = 1 ∧ dig n = [n]) ∨ (4294967296 ≤ n ∧ dlen n = 2 ∧ dig n = [n % 4294967296, n / 4294967296]) := by
  by_cases hn : n < 4294967296
  · exact .inl ⟨hn, by simp [dlen, hn], dig_small h0 hn⟩
  · refine .inr ⟨by omega, by simp [dlen, hn], ?_⟩
    rw [dig_pos h0, dig_small (by omega) (by omega)]
theorem short_one {n : Nat} (h0 : 0 < n) (h : n < 18446744073709551616) : ((putd [0, 0, 0, 0] 0 n).drop 0).take (dlen n) = dig n := by
  rcases dig_dlen h0 h with ⟨h1, h2, h3⟩ | ⟨h1, h2, h3⟩
  · rw [h2, h3]; simp [putd, h1]
  · rw [h2, h3]; simp [putd, Nat.not_lt.2 h1]
theorem short_two {n d : Nat} (h0 : 0 < n) (h : n < 18446744073709551616) (g0 : 0 < d) (g : d < 18446744073709551616) :
    ((putd (putd [0, 0, 0, 0] 0 n) (dlen n) d).drop 0).take (dlen n) = dig n ∧ ((putd (putd [0, 0, 0, 0] 0 n) (dlen n) d).drop (dlen n)).take (dlen d) = dig d := by
  rcases dig_dlen h0 h with ⟨h1, h2, h3⟩ | ⟨h1, h2, h3⟩ <;> rcases dig_dlen g0 g with ⟨g1, g2, g3⟩ | ⟨g1, g2, g3⟩ <;> rw [h2, h3, g2, g3] <;> simp [putd, *, Nat.not_lt.2]
theorem putd_len (l : List Nat) (off n : Nat) : (putd l off n).length = l.length := by unfold putd; split <;> simp
end Go.Lg
