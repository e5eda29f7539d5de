/- Plain laws of the loops over limbs. -/
import Derived.Test.YthhdcfhaldcheaaLgW
set_option linter.unusedVariables false
set_option linter.unusedSimpArgs false
namespace Go.Lg

theorem val_drop {l : List Nat} {k : Nat} (h : k < l.length) : val (l.drop k) = l.getD k 0 + 4294967296 * val (l.drop (k + 1)) := by
  rw [List.drop_eq_getElem_cons h, val, List.getD_eq_getElem?_getD, List.getElem?_eq_getElem h]; rfl
theorem drop_set_self {l : List Nat} {k x : Nat} (h : k < l.length) : val ((l.set k x).drop k) = x + 4294967296 * val (l.drop (k + 1)) := by
  rw [val_drop (by simpa using h), getD_set_self _ _ _ h, List.drop_set_of_lt (by omega)]
theorem val_drop_lt {l : List Nat} (h : Lim l) {k j : Nat} (hk : l.length ≤ k + j) : val (l.drop k) < 4294967296 ^ j :=
  val_lt_len (lim_drop h k) (by simp; omega)
theorem val_set {l : List Nat} {k x : Nat} (h : k < l.length) : val (l.set k x) + 4294967296 ^ k * l.getD k 0 = val l + 4294967296 ^ k * x := by
  induction l generalizing k with
  | nil => simp at h
  | cons a l ih =>
    cases k with
    | zero => simp [val]; omega
    | succ k =>
      have := ih (k := k) (by simpa using h)
      simp only [List.set_cons_succ, val, List.getD_cons_succ, Nat.pow_succ]
      have e1 : 4294967296 ^ k * 4294967296 * l.getD k 0 = 4294967296 * (4294967296 ^ k * l.getD k 0) := by rw [Nat.mul_comm (4294967296 ^ k), Nat.mul_assoc]
      have e2 : 4294967296 ^ k * 4294967296 * x = 4294967296 * (4294967296 ^ k * x) := by rw [Nat.mul_comm (4294967296 ^ k), Nat.mul_assoc]
      rw [e1, e2]; omega
theorem val_split (l : List Nat) (k : Nat) (h : k ≤ l.length) : val l = val (l.take k) + 4294967296 ^ k * val (l.drop k) := by
  have := val_append (l.take k) (l.drop k)
  rwa [List.take_append_drop, List.length_take, Nat.min_eq_left h] at this

/-! ### Comparing -/
def cmpN (m n : Nat) : Int := if m < n then -1 else if n < m then 1 else 0
theorem cmpN_lt {m n : Nat} (h : m < n) : cmpN m n = -1 := by simp [cmpN, h]
theorem cmpN_gt {m n : Nat} (h : n < m) : cmpN m n = 1 := by simp [cmpN, h]; omega
theorem cmpN_eq {m n : Nat} (h : m = n) : cmpN m n = 0 := by simp [cmpN, h]
theorem lt_of_len {m n : Nat} (h : (dig m).length < (dig n).length) : m < n := by
  have h1 := val_lt (lim_dig m); rw [val_dig] at h1
  apply Classical.byContradiction
  intro h2
  have := len_dig_mono (Nat.le_of_not_lt h2)
  omega
theorem val_lt_of_limb {a b : List Nat} (ha : Lim a) {k : Nat} (hk : k < a.length) (hk' : k < b.length) (hd : a.drop (k + 1) = b.drop (k + 1)) (h : a.getD k 0 < b.getD k 0) : val a < val b := by
  rw [val_split a k (by omega), val_split b k (by omega), val_drop hk, val_drop hk', hd]
  have h1 : val (a.take k) < 4294967296 ^ k := val_lt_len (lim_take ha k) (by simp; omega)
  have h2 : 4294967296 ^ k * (a.getD k 0 + 1) ≤ 4294967296 ^ k * b.getD k 0 := Nat.mul_le_mul_left _ h
  rw [Nat.mul_add, Nat.mul_add]
  rw [Nat.mul_add] at h2
  omega
theorem drop_eq_of {a b : List Nat} {k : Nat} (hk : k < a.length) (hk' : k < b.length) (hd : a.drop (k + 1) = b.drop (k + 1)) (h : a.getD k 0 = b.getD k 0) : a.drop k = b.drop k := by
  rw [List.drop_eq_getElem_cons hk, List.drop_eq_getElem_cons hk', hd]
  rw [List.getD_eq_getElem?_getD, List.getElem?_eq_getElem hk, List.getD_eq_getElem?_getD, List.getElem?_eq_getElem hk'] at h
  simp only [Option.getD_some] at h
  rw [h]
theorem take_eq_of {a b : List Nat} {k : Nat} (hk : k < a.length) (hk' : k < b.length) (hd : a.take k = b.take k) (h : a.getD k 0 = b.getD k 0) : a.take (k + 1) = b.take (k + 1) := by
  rw [List.take_succ_eq_append_getElem hk, List.take_succ_eq_append_getElem hk', hd]
  rw [List.getD_eq_getElem?_getD, List.getElem?_eq_getElem hk, List.getD_eq_getElem?_getD, List.getElem?_eq_getElem hk'] at h
  simp only [Option.getD_some] at h
  rw [h]

/-! ### Sums -/
theorem add_inv {k c : Nat} {a b o : List Nat} (hol : k < o.length) (hv : val (o.take k) + 4294967296 ^ k * c = val (a.take k) + val (b.take k)) {s : Nat} (hs : s = c + a.getD k 0 + b.getD k 0) :
    val ((o.set k (s % 4294967296)).take (k + 1)) + 4294967296 ^ (k + 1) * (s / 4294967296) = val (a.take (k + 1)) + val (b.take (k + 1)) := by
  rw [val_set_take _ _ _ hol, val_take_succ' a, val_take_succ' b, Nat.pow_succ]
  have h1 := carry_step (4294967296 ^ k) s
  have h2 : 4294967296 ^ k * s = 4294967296 ^ k * c + 4294967296 ^ k * a.getD k 0 + 4294967296 ^ k * b.getD k 0 := by rw [hs, Nat.mul_add, Nat.mul_add]
  omega
theorem add_end {c : Nat} {a b o : List Nat} (hba : b.length ≤ a.length) (hol : o.length = a.length + 1) (hlo : Lim o) (hc : c < 4294967296) (hv : val (o.take a.length) + 4294967296 ^ a.length * c = val (a.take a.length) + val (b.take a.length)) :
    trimL (o.set a.length c) = dig (val a + val b) := by
  rw [trimL_dig (lim_set hlo _ _ hc)]
  congr 1
  have h1 := val_set_take o a.length c (by omega)
  rw [List.take_of_length_le (by simp; omega)] at h1
  rw [val_take_all a (Nat.le_refl _), val_take_all b hba] at hv
  omega

/-! ### Differences -/
theorem sub_inv0 {k br : Nat} {a b o : List Nat} (hol : k < o.length) (hv : val (o.take k) + val (b.take k) = val (a.take k) + 4294967296 ^ k * br) {y : Nat} (hy : y = br + b.getD k 0) (h : y ≤ a.getD k 0) :
    val ((o.set k (a.getD k 0 - y)).take (k + 1)) + val (b.take (k + 1)) = val (a.take (k + 1)) + 4294967296 ^ (k + 1) * 0 := by
  rw [val_set_take _ _ _ hol, val_take_succ' a, val_take_succ' b]
  have h2 : 4294967296 ^ k * a.getD k 0 = 4294967296 ^ k * (a.getD k 0 - y) + 4294967296 ^ k * br + 4294967296 ^ k * b.getD k 0 := by
    rw [← Nat.mul_add, ← Nat.mul_add]; congr 1; omega
  omega
theorem sub_inv1 {k br : Nat} {a b o : List Nat} (hol : k < o.length) (hv : val (o.take k) + val (b.take k) = val (a.take k) + 4294967296 ^ k * br) {y : Nat} (hy : y = br + b.getD k 0) (h : a.getD k 0 < y) (hy2 : y ≤ 4294967296) :
    val ((o.set k (4294967296 + a.getD k 0 - y)).take (k + 1)) + val (b.take (k + 1)) = val (a.take (k + 1)) + 4294967296 ^ (k + 1) * 1 := by
  rw [val_set_take _ _ _ hol, val_take_succ' a, val_take_succ' b, Nat.pow_succ]
  have h2 : 4294967296 ^ k * 4294967296 + 4294967296 ^ k * a.getD k 0 = 4294967296 ^ k * (4294967296 + a.getD k 0 - y) + 4294967296 ^ k * br + 4294967296 ^ k * b.getD k 0 := by
    rw [← Nat.mul_add, ← Nat.mul_add, ← Nat.mul_add]; congr 1; omega
  omega
theorem sub_end {br : Nat} {a b o : List Nat} (hla : Lim a) (hlo : Lim o) (hol : o.length = a.length) (hbl : b.length ≤ a.length) (hle : val b ≤ val a)
    (hv : val (o.take a.length) + val (b.take a.length) = val (a.take a.length) + 4294967296 ^ a.length * br) : trimL o = dig (val a - val b) := by
  rw [trimL_dig hlo]
  congr 1
  rw [val_take_all a (Nat.le_refl _), val_take_all b hbl, val_take_all o (by omega)] at hv
  have h1 := val_lt hlo
  rw [hol] at h1
  cases br with
  | zero => omega
  | succ n =>
    rw [Nat.mul_succ] at hv
    omega

/-! ### Products -/
theorem mul_inv {i j c x : Nat} {b o : List Nat} {v0 : Nat} (hol : i + j < o.length) (hv : val o + 4294967296 ^ (i + j) * c = v0 + 4294967296 ^ i * (x * val (b.take j))) {s : Nat}
    (hs : s = c + (x * b.getD j 0 + o.getD (i + j) 0)) :
    val (o.set (i + j) (s % 4294967296)) + 4294967296 ^ (i + (j + 1)) * (s / 4294967296) = v0 + 4294967296 ^ i * (x * val (b.take (j + 1))) := by
  have h1 := val_set (x := s % 4294967296) hol
  have h2 := carry_step (4294967296 ^ (i + j)) s
  have h3 : 4294967296 ^ i * (x * val (b.take (j + 1))) = 4294967296 ^ i * (x * val (b.take j)) + 4294967296 ^ (i + j) * (x * b.getD j 0) := by
    rw [val_take_succ', Nat.mul_add, Nat.mul_add, Nat.pow_add]
    congr 1
    rw [Nat.mul_left_comm x, Nat.mul_assoc]
  have h4 : 4294967296 ^ (i + j) * s = 4294967296 ^ (i + j) * c + 4294967296 ^ (i + j) * (x * b.getD j 0) + 4294967296 ^ (i + j) * o.getD (i + j) 0 := by
    rw [hs, Nat.mul_add, Nat.mul_add]; omega
  have h5 : 4294967296 ^ (i + (j + 1)) = 4294967296 ^ (i + j) * 4294967296 := by rw [← Nat.add_assoc, Nat.pow_succ]
  rw [h3, h5]
  omega
theorem mul_row {i c x : Nat} {a b o : List Nat} {v0 : Nat} (_hi : i < a.length) (hol : i + b.length < o.length) (h0 : o.getD (i + b.length) 0 = 0) (hx : x = a.getD i 0) (hv0 : v0 = val (a.take i) * val b)
    (hv : val o + 4294967296 ^ (i + b.length) * c = v0 + 4294967296 ^ i * (x * val (b.take b.length))) :
    val (o.set (i + b.length) c) = val (a.take (i + 1)) * val b := by
  have h1 := val_set (x := c) hol
  rw [List.take_length] at hv
  have h2 : val (a.take (i + 1)) * val b = v0 + 4294967296 ^ i * (x * val b) := by
    rw [val_take_succ', Nat.add_mul, hv0, hx, Nat.mul_assoc]
  rw [h2]
  rw [h0] at h1
  omega

/-! ### Division by a limb -/
theorem small_inv {k d r : Nat} {a q : List Nat} (hk : k < a.length) (hq : q.length = a.length) (hv : val (q.drop (k + 1)) * d + r = val (a.drop (k + 1))) {s : Nat} (hs : s = r * 4294967296 + a.getD k 0) :
    val ((q.set k (s / d)).drop k) * d + s % d = val (a.drop k) := by
  rw [drop_set_self (by omega), val_drop hk, ← hv, Nat.add_mul]
  have := Nat.div_add_mod s d
  rw [Nat.mul_comm (s / d)]
  rw [Nat.mul_add, hs] at *
  have e : 4294967296 * val (q.drop (k + 1)) * d = 4294967296 * (val (q.drop (k + 1)) * d) := by rw [Nat.mul_assoc]
  rw [e]
  omega
theorem small_lt {d r x : Nat} (hr : r < d) (hx : x < 4294967296) : (r * 4294967296 + x) / d < 4294967296 := by
  rw [Nat.div_lt_iff_lt_mul (by omega)]
  have : (r + 1) * 4294967296 ≤ d * 4294967296 := Nat.mul_le_mul_right _ hr
  rw [Nat.mul_comm 4294967296]; omega
theorem small_end {d r : Nat} {a q : List Nat} (hd : 0 < d) (hr : r < d) (hq : Lim q) (hv : val (q.drop 0) * d + r = val (a.drop 0)) : trimL q = dig (val a / d) ∧ r = val a % d := by
  rw [List.drop_zero, List.drop_zero] at hv
  rw [trimL_dig hq, ← hv]
  refine ⟨?_, ?_⟩
  · congr 1
    rw [Nat.mul_comm, Nat.mul_add_div hd, Nat.div_eq_of_lt hr]; rfl
  · rw [Nat.mul_comm, Nat.mul_add_mod, Nat.mod_eq_of_lt hr]

/-! ### Shifting -/
theorem raise_inv {k c p : Nat} {a o : List Nat} (hol : k < o.length) (hv : val (o.take k) + 4294967296 ^ k * c = val (a.take k) * p) {s : Nat} (hs : s = a.getD k 0 * p + c) :
    val ((o.set k (s % 4294967296)).take (k + 1)) + 4294967296 ^ (k + 1) * (s / 4294967296) = val (a.take (k + 1)) * p := by
  rw [val_set_take _ _ _ hol, val_take_succ' a, Nat.pow_succ, Nat.add_mul]
  have h1 := carry_step (4294967296 ^ k) s
  have h2 : 4294967296 ^ k * s = 4294967296 ^ k * (a.getD k 0 * p) + 4294967296 ^ k * c := by rw [hs, Nat.mul_add]
  have h3 : 4294967296 ^ k * a.getD k 0 * p = 4294967296 ^ k * (a.getD k 0 * p) := by rw [Nat.mul_assoc]
  omega
theorem raise_end {c p : Nat} {a o : List Nat} (hol : o.length = a.length + 1) (hv : val (o.take a.length) + 4294967296 ^ a.length * c = val (a.take a.length) * p) : val (o.set a.length c) = val a * p := by
  have h1 := val_set_take o a.length c (by omega)
  rw [List.take_of_length_le (by simp; omega)] at h1
  rw [val_take_all a (Nat.le_refl _)] at hv
  omega

/-! ### Binary digits -/
def blen (n : Nat) : Nat := if n = 0 then 0 else n.log2 + 1
theorem blen_zero {n : Nat} : blen n = 0 ↔ n = 0 := by unfold blen; split <;> simp_all
theorem blen_le {n k : Nat} : blen n ≤ k ↔ n < 2 ^ k := by
  unfold blen
  split
  · rename_i h; subst h; simp [Nat.pow_pos]
  · rename_i h
    rw [Nat.succ_le_iff, Nat.log2_lt h]
theorem blen_lt {n k : Nat} : k < blen n ↔ 2 ^ k ≤ n := by
  rw [← Nat.not_le, blen_le, Nat.not_lt]
theorem blen_one {n : Nat} : blen n = 1 ↔ n = 1 := by
  have h1 := blen_le (n := n) (k := 1)
  have h0 := blen_zero (n := n)
  simp only [Nat.pow_one] at h1
  omega
theorem blen_eq {n k : Nat} (h1 : 2 ^ k ≤ n) (h2 : n < 2 ^ (k + 1)) : blen n = k + 1 := by
  have a := blen_lt.2 h1
  have b := blen_le.2 h2
  omega
theorem blen_div {n k : Nat} (h : 2 ^ k ≤ n) : blen n = k + blen (n / 2 ^ k) := by
  have hp : 0 < 2 ^ k := Nat.pow_pos (by omega)
  have h0 : n / 2 ^ k ≠ 0 := by
    intro e
    rw [Nat.div_eq_zero_iff] at e
    omega
  have h1 : 0 < blen (n / 2 ^ k) := by
    rcases Nat.eq_zero_or_pos (blen (n / 2 ^ k)) with e | e
    · exact absurd (blen_zero.1 e) h0
    · exact e
  obtain ⟨j, hj⟩ : ∃ j, blen (n / 2 ^ k) = j + 1 := ⟨_, (Nat.sub_add_cancel h1).symm⟩
  have h2 : 2 ^ j ≤ n / 2 ^ k := blen_lt.1 (by omega)
  have h3 : n / 2 ^ k < 2 ^ (j + 1) := blen_le.1 (by omega)
  rw [Nat.le_div_iff_mul_le hp, ← Nat.pow_add] at h2
  rw [Nat.div_lt_iff_lt_mul hp, ← Nat.pow_add] at h3
  rw [hj]
  have := blen_eq (n := n) (k := k + j) (by rwa [Nat.add_comm k]) (by rwa [Nat.add_comm k, Nat.add_right_comm])
  omega
theorem two32 : (4294967296 : Nat) = 2 ^ 32 := rfl
theorem blen_val {l : List Nat} (hL : Lim l) (h : Can l) (hl : 0 < l.length) : blen (val l) = 32 * (l.length - 1) + blen (l.getD (l.length - 1) 0) := by
  have hne := can_getLast h hl
  have hp : 0 < 4294967296 ^ (l.length - 1) := Nat.pow_pos (by omega)
  have hd : val (l.drop (l.length - 1)) = l.getD (l.length - 1) 0 := by
    rw [val_drop (by omega), show l.length - 1 + 1 = l.length by omega, List.drop_length]; simp [val]
  have hs := val_split l (l.length - 1) (by omega)
  have ht : val (l.take (l.length - 1)) < 4294967296 ^ (l.length - 1) := val_lt_len (lim_take hL _) (by simp)
  rw [hd] at hs
  have hpow : (2 : Nat) ^ (32 * (l.length - 1)) = 4294967296 ^ (l.length - 1) := by rw [Nat.pow_mul]
  have hge : 4294967296 ^ (l.length - 1) * 1 ≤ 4294967296 ^ (l.length - 1) * l.getD (l.length - 1) 0 := Nat.mul_le_mul_left _ (by omega)
  rw [blen_div (k := 32 * (l.length - 1)) (by rw [hpow]; omega), hpow]
  congr 2
  rw [hs, Nat.add_comm, Nat.mul_add_div hp, Nat.div_eq_of_lt ht]; rfl
end Go.Lg
