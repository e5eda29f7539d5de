/- Plain facts about lists of limbs, for the loops over them. -/
import Derived.Test.YthhdcfhaldcheaaLgU
set_option linter.unusedVariables false
set_option linter.unusedSimpArgs false
namespace Go.Lg

abbrev B32 : Nat := 4294967296

theorem dflt : (default : Nat) = 0 := rfl
theorem val_take_succ' (l : List Nat) (k : Nat) : val (l.take (k + 1)) = val (l.take k) + 4294967296 ^ k * l.getD k 0 := by
  by_cases h : k < l.length
  · exact val_take_succ h
  · have h1 : l.take (k + 1) = l := List.take_of_length_le (by omega)
    have h2 : l.take k = l := List.take_of_length_le (by omega)
    have h3 : l.getD k 0 = 0 := by rw [List.getD_eq_getElem?_getD, List.getElem?_eq_none (by omega)]; rfl
    rw [h1, h2, h3]; simp
theorem val_take_all (l : List Nat) {k : Nat} (h : l.length ≤ k) : val (l.take k) = val l := by rw [List.take_of_length_le h]
theorem take_set_ge (l : List Nat) (k j x : Nat) (h : k ≤ j) : (l.set j x).take k = l.take k := by rw [List.take_set_of_le h]
theorem val_set_take (l : List Nat) (k x : Nat) (h : k < l.length) : val ((l.set k x).take (k + 1)) = val (l.take k) + 4294967296 ^ k * x := by
  rw [val_take_succ', take_set_ge _ _ _ _ (Nat.le_refl k), List.getD_eq_getElem?_getD, List.getElem?_set_self h]; rfl
theorem lim_set {l : List Nat} (h : Lim l) (k x : Nat) (hx : x < 4294967296) : Lim (l.set k x) := fun y hy => by
  rcases List.mem_or_eq_of_mem_set hy with hy | rfl
  · exact h y hy
  · exact hx
theorem getD_lim {l : List Nat} (h : Lim l) (k : Nat) : l.getD k 0 < 4294967296 := lim_getD h k
theorem getD_set_self (l : List Nat) (k x : Nat) (h : k < l.length) : (l.set k x).getD k 0 = x := by
  rw [List.getD_eq_getElem?_getD, List.getElem?_set_self h]; rfl
theorem getD_set_ne (l : List Nat) (k j x : Nat) (h : k ≠ j) : (l.set k x).getD j 0 = l.getD j 0 := by
  rw [List.getD_eq_getElem?_getD, List.getD_eq_getElem?_getD, List.getElem?_set_ne h]
theorem getD_ge (l : List Nat) (k : Nat) (h : l.length ≤ k) : l.getD k 0 = 0 := by
  rw [List.getD_eq_getElem?_getD, List.getElem?_eq_none h]; rfl
/-- one limb with its carry -/
theorem carry_step (p s : Nat) : p * (s % 4294967296) + p * 4294967296 * (s / 4294967296) = p * s := by
  rw [Nat.mul_assoc, ← Nat.mul_add, Nat.mod_add_div]
theorem getD_dig_lt (n k : Nat) : (dig n).getD k 0 < 4294967296 := getD_lim (lim_dig n) k
theorem len_dig_mono {m n : Nat} (h : m ≤ n) : (dig m).length ≤ (dig n).length := by
  apply dig_length_le
  have := val_lt (lim_dig n); rw [val_dig] at this; omega
theorem val_lt_len {l : List Nat} (h : Lim l) {k : Nat} (hk : l.length ≤ k) : val l < 4294967296 ^ k :=
  Nat.lt_of_lt_of_le (val_lt h) (Nat.pow_le_pow_right (by omega) hk)
theorem dig_one : dig 1 = [1] := rfl
theorem dig_small {n : Nat} (h0 : 0 < n) (h : n < 4294967296) : dig n = [n] := by
  rw [dig_pos h0, Nat.mod_eq_of_lt h, Nat.div_eq_of_lt h]; rfl
theorem dig_len_le1 {n : Nat} : (dig n).length ≤ 1 ↔ n < 4294967296 := dig_length_lt_iff
theorem dig_len_le2 {n : Nat} : (dig n).length ≤ 2 ↔ n < 18446744073709551616 := by
  rw [dig_length_lt_iff]
theorem val_two (x y : Nat) : val [x, y] = x + 4294967296 * y := by simp [val]
theorem can_getLast {l : List Nat} (h : Can l) (hne : 0 < l.length) : l.getD (l.length - 1) 0 ≠ 0 := by
  have h1 : l ≠ [] := by rintro rfl; simp at hne
  have := h h1
  rw [List.getLast_eq_getElem] at this
  rw [List.getD_eq_getElem?_getD, List.getElem?_eq_getElem (by omega)]
  exact this
end Go.Lg
