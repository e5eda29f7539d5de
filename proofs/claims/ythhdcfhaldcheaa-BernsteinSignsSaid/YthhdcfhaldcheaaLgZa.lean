/- Plain laws of long division with limbs: a whole digit. -/
import Derived.Test.YthhdcfhaldcheaaLgZ
set_option linter.unusedVariables false
set_option linter.unusedSimpArgs false
namespace Go.Lg

theorem powpos (k : Nat) : 0 < 4294967296 ^ k := Nat.pow_pos (by omega)
theorem kn_zero {ul : List Nat} {V n j : Nat} (hVn : V < 4294967296 ^ n) (hlt : val ul < V * 4294967296 ^ (j + 1)) : ∀ p, n + j + 1 ≤ p → ul.getD p 0 = 0 := by
  apply zeros_above
  have h1 : V * 4294967296 ^ (j + 1) ≤ 4294967296 ^ n * 4294967296 ^ (j + 1) := Nat.mul_le_mul_right _ (Nat.le_of_lt hVn)
  rw [← Nat.pow_add] at h1
  exact Nat.lt_of_lt_of_le hlt h1
theorem kn_ctx {ul : List Nat} {V n j : Nat} (hn : (dig V).length = n + 2) (hul : n + 2 + j < ul.length) (hlu : Lim ul) (hlt : val ul < V * 4294967296 ^ (j + 1)) :
    ∃ vl rl, vl < 4294967296 ^ n ∧ rl < 4294967296 ^ n ∧ V = ((dig V).getD (n + 1) 0 * 4294967296 + (dig V).getD n 0) * 4294967296 ^ n + vl ∧
      val ul / 4294967296 ^ j = ((ul.getD (n + 2 + j) 0 * 4294967296 + ul.getD (n + 1 + j) 0) * 4294967296 + ul.getD (n + j) 0) * 4294967296 ^ n + rl ∧
      val ul / 4294967296 ^ j < V * 4294967296 := by
  have hVn : V < 4294967296 ^ (n + 2) := dig_length_ge (by omega)
  have hz := kn_zero hVn hlt
  have h1 := val_two_top (l := dig V) (k := n) (by omega)
  have h2 := val_three (l := ul) (k := n + j) (by omega) (fun p hp => hz p (by omega))
  rw [val_dig] at h1
  refine ⟨val ((dig V).take n), val (ul.take (n + j)) / 4294967296 ^ j, val_lt_len (lim_take (lim_dig V) _) (by simp; omega), ?_, h1, ?_, ?_⟩
  · rw [Nat.div_lt_iff_lt_mul (powpos j), ← Nat.pow_add]
    exact val_lt_len (lim_take hlu _) (by simp; omega)
  · have e1 : n + j + 2 = n + 2 + j := by omega
    have e2 : n + j + 1 = n + 1 + j := by omega
    rw [e1, e2] at h2
    rw [h2, Nat.pow_add, ← Nat.mul_assoc, Nat.add_comm, Nat.add_mul_div_right _ _ (powpos j), Nat.add_comm]
  · rw [Nat.div_lt_iff_lt_mul (powpos j)]
    rw [Nat.pow_succ] at hlt
    have e : V * 4294967296 * 4294967296 ^ j = V * (4294967296 ^ j * 4294967296) := by rw [Nat.mul_assoc, Nat.mul_comm 4294967296]
    rw [e]; exact hlt

section
variable {ul ul0 : List Nat} {V n j x : Nat}
theorem kn_le (h : val ul + 4294967296 ^ j * (x * V) = val ul0) (hV : 0 < V) : x ≤ val ul0 / 4294967296 ^ j / V := by
  rw [Nat.le_div_iff_mul_le hV, Nat.le_div_iff_mul_le (powpos j), Nat.mul_comm _ (4294967296 ^ j)]
  omega
theorem kn_gt (h : val ul + 4294967296 ^ j * (x * V) = val ul0 + 4294967296 ^ (n + j + 1)) (hlt : val ul < 4294967296 ^ (n + j + 1)) (hV : 0 < V) : val ul0 / 4294967296 ^ j / V < x := by
  rw [Nat.div_lt_iff_lt_mul hV, Nat.div_lt_iff_lt_mul (powpos j), Nat.mul_comm _ (4294967296 ^ j)]
  omega
theorem kn_back {ul3 : List Nat} {c : Nat} (hx : 0 < x) (hxV : 4294967296 ^ j * ((x - 1) * V) ≤ val ul0) (h : val ul + 4294967296 ^ j * (x * V) = val ul0 + 4294967296 ^ (n + j + 1)) (hul : n + j < ul3.length) (hl3 : Lim ul3) (hz : ∀ p, n + j + 1 ≤ p → ul3.getD p 0 = 0)
    (hc : c ≤ 1) (h3 : val ul3 + 4294967296 ^ (n + j) * c = val ul + 4294967296 ^ j * V) {t : Nat} (ht : t = ul3.getD (n + j) 0) :
    Lim (ul3.set (n + j) ((t + c) % 4294967296)) ∧ val (ul3.set (n + j) ((t + c) % 4294967296)) + 4294967296 ^ j * ((x - 1) * V) = val ul0 := by
  have hs := val_split ul3 (n + j) (by omega)
  rw [val_drop hul, val_all_zero (l := ul3.drop (n + j + 1)) (fun p => by rw [getD_drop]; exact hz _ (by omega)), Nat.mul_zero, Nat.add_zero, ← ht] at hs
  have hlow : val (ul3.take (n + j)) < 4294967296 ^ (n + j) := val_lt_len (lim_take hl3 _) (by simp; omega)
  have htl := getD_lim hl3 (n + j)
  rw [← ht] at htl
  obtain ⟨y, rfl⟩ : ∃ y, x = y + 1 := ⟨x - 1, by omega⟩
  rw [Nat.add_sub_cancel] at *
  have e1 : 4294967296 ^ j * ((y + 1) * V) = 4294967296 ^ j * (y * V) + 4294967296 ^ j * V := by rw [Nat.add_mul, Nat.one_mul, Nat.mul_add]
  rw [e1] at h
  have h4 : val (ul3.take (n + j)) + 4294967296 ^ (n + j) * (t + c) = (val ul0 - 4294967296 ^ j * (y * V)) + 4294967296 ^ (n + j) * 4294967296 := by
    rw [Nat.mul_add, ← Nat.pow_succ]; omega
  have h5 : 4294967296 ≤ t + c := by
    apply Classical.byContradiction
    intro hh
    have : 4294967296 ^ (n + j) * (t + c + 1) ≤ 4294967296 ^ (n + j) * 4294967296 := Nat.mul_le_mul_left _ (by omega)
    rw [Nat.mul_add _ (t + c)] at this
    omega
  have h6 : t + c = 4294967296 := by omega
  rw [h6] at h4 ⊢
  refine ⟨lim_set hl3 _ _ (by omega), ?_⟩
  have h7 := val_set (x := 4294967296 % 4294967296) hul
  rw [← ht, Nat.mod_self, Nat.mul_zero, Nat.add_zero] at h7
  rw [Nat.mod_self]
  omega
theorem kn_next {ql : List Nat} {U0 : Nat} (hV : 0 < V) (hx : x = val ul0 / 4294967296 ^ j / V) (h : val ul + 4294967296 ^ j * (x * V) = val ul0) (hj : j < ql.length)
    (hv : val ul0 + V * 4294967296 ^ (j + 1) * val (ql.drop (j + 1)) = U0) :
    val ul + V * 4294967296 ^ j * val ((ql.set j x).drop j) = U0 ∧ val ul < V * 4294967296 ^ j := by
  constructor
  · rw [drop_set_self hj, ← hv, ← h, Nat.mul_add]
    have e1 : V * 4294967296 ^ j * x = 4294967296 ^ j * (x * V) := by simp only [Nat.mul_assoc, Nat.mul_left_comm, Nat.mul_comm]
    have e2 : V * 4294967296 ^ j * (4294967296 * val (ql.drop (j + 1))) = V * 4294967296 ^ (j + 1) * val (ql.drop (j + 1)) := by
      rw [Nat.pow_succ]; simp only [Nat.mul_assoc]
    rw [e1, e2]; omega
  · have h1 : val ul0 / 4294967296 ^ j < (x + 1) * V := by
      rw [← Nat.div_lt_iff_lt_mul hV, hx]; omega
    rw [Nat.div_lt_iff_lt_mul (powpos j)] at h1
    have e : (x + 1) * V * 4294967296 ^ j = 4294967296 ^ j * (x * V) + V * 4294967296 ^ j := by
      rw [Nat.add_mul, Nat.add_mul, Nat.one_mul, Nat.mul_comm (x * V)]
    rw [e] at h1; omega
end

/-! ### Before and after -/
theorem pow_le_of {s : Nat} (hs : s < 32) : 2 ^ s ≤ 2147483648 := Nat.pow_le_pow_right (n := 2) (by omega) (show s ≤ 31 by omega)
theorem kn_shift {top : Nat} (h0 : 0 < top) (h : top < 4294967296) : 2147483648 ≤ top * 2 ^ (32 - blen top) ∧ top * 2 ^ (32 - blen top) < 4294967296 := by
  have h1 : blen top ≤ 32 := blen_le.2 h
  have h2 : 1 ≤ blen top := by
    rcases Nat.eq_zero_or_pos (blen top) with e | e
    · exact absurd (blen_zero.1 e) (by omega)
    · exact e
  have h3 : 2 ^ (blen top - 1) ≤ top := blen_lt.1 (by omega)
  have h4 : top < 2 ^ blen top := blen_le.1 (Nat.le_refl _)
  constructor
  · have := Nat.mul_le_mul_right (2 ^ (32 - blen top)) h3
    rw [← Nat.pow_add, show blen top - 1 + (32 - blen top) = 31 by omega] at this
    exact this
  · have := Nat.mul_lt_mul_of_pos_right h4 (Nat.pow_pos (n := 32 - blen top) (show 0 < 2 by omega))
    rw [← Nat.pow_add, show blen top + (32 - blen top) = 32 by omega] at this
    exact this
theorem kn_norm {Bv n s : Nat} (hn : (dig Bv).length = n + 1) (hs : s = 32 - blen ((dig Bv).getD n 0)) : s < 32 ∧ (dig (Bv * 2 ^ s)).length = n + 1 ∧ 2147483648 * 4294967296 ^ n ≤ Bv * 2 ^ s ∧ Bv * 2 ^ s < 4294967296 ^ (n + 1) := by
  have hne := can_getLast (can_dig Bv) (by omega : 0 < (dig Bv).length)
  rw [hn, Nat.add_sub_cancel] at hne
  have hlim := getD_dig_lt Bv n
  obtain ⟨h1, h2⟩ := kn_shift (Nat.pos_of_ne_zero hne) hlim
  rw [← hs] at h1 h2
  have hv : Bv = 4294967296 ^ n * (dig Bv).getD n 0 + val ((dig Bv).take n) := by
    have := val_split (dig Bv) n (by omega)
    rw [val_drop (by omega), show (dig Bv).drop (n + 1) = [] from List.drop_of_length_le (by omega), val_dig] at this
    simp only [val, Nat.mul_zero, Nat.add_zero] at this
    omega
  have hlow : val ((dig Bv).take n) < 4294967296 ^ n := val_lt_len (lim_take (lim_dig Bv) _) (by simp; omega)
  have hge : 2147483648 * 4294967296 ^ n ≤ Bv * 2 ^ s := by
    have := Nat.mul_le_mul_left (4294967296 ^ n) h1
    have e : 4294967296 ^ n * ((dig Bv).getD n 0 * 2 ^ s) ≤ Bv * 2 ^ s := by
      rw [← Nat.mul_assoc]; exact Nat.mul_le_mul_right _ (by omega)
    rw [Nat.mul_comm] at this; omega
  have hlt : Bv * 2 ^ s < 4294967296 ^ (n + 1) := by
    have hp : 0 < 2 ^ s := Nat.pow_pos (by omega)
    have e1 : Bv < 4294967296 ^ n * ((dig Bv).getD n 0 + 1) := by rw [Nat.mul_add]; omega
    have e2 := Nat.mul_lt_mul_of_pos_right e1 hp
    have e3 : (dig Bv).getD n 0 * 2 ^ s + 2 ^ s ≤ 4294967296 := by
      have hs32 : s ≤ 32 := by omega
      have hd : 4294967296 = 2 ^ (32 - s) * 2 ^ s := by rw [← Nat.pow_add, show 32 - s + s = 32 by omega]
      rw [hd] at h2 ⊢
      have := Nat.lt_of_mul_lt_mul_right h2
      have := Nat.mul_le_mul_right (2 ^ s) this
      rw [Nat.succ_mul] at this
      exact this
    rw [Nat.mul_assoc, Nat.add_mul, Nat.one_mul] at e2
    have e4 := Nat.mul_le_mul_left (4294967296 ^ n) e3
    rw [Nat.pow_succ]; omega
  refine ⟨?_, ?_, hge, hlt⟩
  · rcases Nat.eq_zero_or_pos (blen ((dig Bv).getD n 0)) with e | e
    · exact absurd (blen_zero.1 e) hne
    · omega
  · have h3 := dig_length_le hlt
    have h4 : n < (dig (Bv * 2 ^ s)).length := by
      apply Classical.byContradiction
      intro hh
      have := dig_length_ge (n := Bv * 2 ^ s) (k := n) (by omega)
      have := Nat.mul_le_mul_right (4294967296 ^ n) (show 1 ≤ 2147483648 by omega)
      omega
    omega
theorem kn_vt {V n : Nat} (hn : (dig V).length = n + 1) (hge : 2147483648 * 4294967296 ^ n ≤ V) : 2147483648 ≤ (dig V).getD n 0 := by
  have hv := val_split (dig V) n (by omega)
  rw [val_drop (by omega), show (dig V).drop (n + 1) = [] from List.drop_of_length_le (by omega), val_dig] at hv
  simp only [val, Nat.mul_zero, Nat.add_zero] at hv
  have hlow : val ((dig V).take n) < 4294967296 ^ n := val_lt_len (lim_take (lim_dig V) _) (by simp; omega)
  apply Classical.byContradiction
  intro hh
  have := Nat.mul_le_mul_left (4294967296 ^ n) (show (dig V).getD n 0 + 1 ≤ 2147483648 by omega)
  rw [Nat.mul_add, Nat.mul_comm _ 2147483648] at this
  omega
theorem kn_start {A Bv s n m : Nat} (hs : s < 32) (hm : (dig A).length = m) (hnm : n + 1 ≤ m) (hge : 2147483648 * 4294967296 ^ n ≤ Bv * 2 ^ s) : A * 2 ^ s < Bv * 2 ^ s * 4294967296 ^ (m + 1 - (n + 1)) ∧ A * 2 ^ s < 4294967296 ^ (m + 1) := by
  have hA : A < 4294967296 ^ m := dig_length_ge (by omega)
  have hp := pow_le_of hs
  have h1 : A * 2 ^ s < 4294967296 ^ m * 2147483648 := Nat.lt_of_lt_of_le (Nat.mul_lt_mul_of_pos_right hA (Nat.pow_pos (by omega))) (Nat.mul_le_mul_left _ hp)
  constructor
  · have h2 := Nat.mul_le_mul_right (4294967296 ^ (m + 1 - (n + 1))) hge
    rw [Nat.mul_assoc, ← Nat.pow_add, show n + (m + 1 - (n + 1)) = m by omega] at h2
    omega
  · rw [Nat.pow_succ]; exact Nat.lt_trans h1 (Nat.mul_lt_mul_of_pos_left (by omega) (powpos m))
theorem kn_end {A Bv s : Nat} {ul ql : List Nat} (hB : 0 < Bv) (h : val ul + Bv * 2 ^ s * val ql = A * 2 ^ s) (hlt : val ul < Bv * 2 ^ s) : val ql = A / Bv ∧ val ul = A % Bv * 2 ^ s := by
  have hp : 0 < 2 ^ s := Nat.pow_pos (by omega)
  have h1 : val ul = A * 2 ^ s % (Bv * 2 ^ s) := by
    rw [← h, Nat.add_mul_mod_self_left, Nat.mod_eq_of_lt hlt]
  have h2 : val ql = A * 2 ^ s / (Bv * 2 ^ s) := by
    rw [← h, Nat.add_mul_div_left _ _ (by exact Nat.mul_pos hB hp), Nat.div_eq_of_lt hlt, Nat.zero_add]
  rw [Nat.mul_mod_mul_right] at h1
  rw [Nat.mul_div_mul_right _ _ hp] at h2
  exact ⟨h2, h1⟩

/-! ### The rest, shifted back -/
theorem sh_inv {i s : Nat} {w o : List Nat} (hi : i < w.length) (hs : s < 32) (hd : w.getD i 0 = o.getD i 0) (hv : 2 ^ s * val (w.take i) = val (o.take i) + 4294967296 ^ i * (o.getD i 0 % 2 ^ s)) {y : Nat} (hy : y = o.getD i 0 / 2 ^ s + o.getD (i + 1) 0 % 2 ^ s * 2 ^ (32 - s)) :
    2 ^ s * val ((w.set i y).take (i + 1)) = val (o.take (i + 1)) + 4294967296 ^ (i + 1) * (o.getD (i + 1) 0 % 2 ^ s) := by
  rw [val_set_take _ _ _ hi, val_take_succ' o, Nat.mul_add, hv, Nat.pow_succ]
  have h1 := Nat.div_add_mod (o.getD i 0) (2 ^ s)
  have h2 : 2 ^ s * (o.getD (i + 1) 0 % 2 ^ s * 2 ^ (32 - s)) = 4294967296 * (o.getD (i + 1) 0 % 2 ^ s) := by
    rw [Nat.mul_left_comm, ← Nat.pow_add, show s + (32 - s) = 32 by omega, Nat.mul_comm]
  have h3 : 2 ^ s * (4294967296 ^ i * y) = 4294967296 ^ i * (2 ^ s * (o.getD i 0 / 2 ^ s)) + 4294967296 ^ i * 4294967296 * (o.getD (i + 1) 0 % 2 ^ s) := by
    rw [Nat.mul_left_comm, hy, Nat.mul_add, h2, Nat.mul_add, Nat.mul_assoc]
  have h4 : 4294967296 ^ i * o.getD i 0 = 4294967296 ^ i * (2 ^ s * (o.getD i 0 / 2 ^ s)) + 4294967296 ^ i * (o.getD i 0 % 2 ^ s) := by rw [← Nat.mul_add, h1]
  omega

section
variable {a b s x c : Nat}
theorem andU : binI .and .u64 (a : Nat) 4294967295 = some (.int .u64 ((a % 4294967296 : Nat) : Int)) := by
  have e : (BitVec.ofInt IntKind.u64.bits (a : Int) &&& BitVec.ofInt IntKind.u64.bits (4294967295 : Int)).toNat = a % 4294967296 := by
    have h1 : (4294967295 : Int) = ((4294967295 : Nat) : Int) := rfl
    rw [h1, bv_nat, bv_nat, BitVec.toNat_and, BitVec.toNat_ofNat, BitVec.toNat_ofNat]
    have h2 : 4294967295 % 2 ^ IntKind.u64.bits = 2 ^ 32 - 1 := rfl
    rw [h2, Nat.and_two_pow_sub_one_eq_mod]
    show a % 18446744073709551616 % 4294967296 = a % 4294967296
    omega
  simp only [binI, e]
  rw [IntWalk.u64_in _ (by omega)]
theorem addU32 : binI .add .u32 (a : Nat) (b : Nat) = some (.int .u32 (((a + b) % 4294967296 : Nat) : Int)) := by
  simp only [binI]; rw [IntKind.wrap_u32]; congr 2
theorem shlV32 (hs : s ≤ 32) : shI .shl .u32 (a : Nat) ((s : Nat) : Int) = some (.int .u32 ((a % 2 ^ (32 - s) * 2 ^ s : Nat) : Int)) := by
  have e : min ((s : Int)).toNat IntKind.u32.bits = s := by show min s 32 = s; omega
  have e2 : (a : Int) * 2 ^ s = ((a * 2 ^ s : Nat) : Int) := by simp
  simp only [shI]
  rw [if_neg (by omega), e, e2, wrap32]
  congr 3
  have : 4294967296 = 2 ^ (32 - s) * 2 ^ s := by rw [← Nat.pow_add, show 32 - s + s = 32 by omega]
  rw [this, Nat.mul_mod_mul_right]
theorem orV32 (hc : c < 2 ^ s) (h : x * 2 ^ s + c < 4294967296) : binI .or .u32 (c : Nat) ((x * 2 ^ s : Nat) : Int) = some (.int .u32 ((x * 2 ^ s + c : Nat) : Int)) := by
  have e : (BitVec.ofInt IntKind.u32.bits (c : Int) ||| BitVec.ofInt IntKind.u32.bits ((x * 2 ^ s : Nat) : Int)).toNat = x * 2 ^ s + c := by
    rw [bv_nat, bv_nat, BitVec.toNat_or, BitVec.toNat_ofNat, BitVec.toNat_ofNat]
    have e1 : x * 2 ^ s % 2 ^ IntKind.u32.bits = x * 2 ^ s := Nat.mod_eq_of_lt (by show _ < 4294967296; omega)
    have e2 : c % 2 ^ IntKind.u32.bits = c := Nat.mod_eq_of_lt (by show _ < 4294967296; omega)
    rw [e1, e2, Nat.or_comm]
    have := Nat.shiftLeft_add_eq_or_of_lt (i := s) (b := c) hc x
    rw [Nat.shiftLeft_eq] at this
    exact this.symm
  simp only [binI, e]
  rw [IntWalk.u32_in _ (by omega)]
theorem half_lt {s y z : Nat} (hs : s ≤ 32) (hy : y < 4294967296) : y / 2 ^ s < 2 ^ (32 - s) ∧ z % 2 ^ s * 2 ^ (32 - s) + y / 2 ^ s < 4294967296 := by
  have hd : 4294967296 = 2 ^ (32 - s) * 2 ^ s := by rw [← Nat.pow_add, show 32 - s + s = 32 by omega]
  have hp : 0 < 2 ^ s := Nat.pow_pos (by omega)
  have h1 : y / 2 ^ s < 2 ^ (32 - s) := by rw [Nat.div_lt_iff_lt_mul hp]; omega
  refine ⟨h1, ?_⟩
  have h2 := Nat.mod_lt z hp
  have h3 : (z % 2 ^ s + 1) * 2 ^ (32 - s) ≤ 2 ^ s * 2 ^ (32 - s) := Nat.mul_le_mul_right _ h2
  rw [Nat.add_mul, Nat.one_mul, Nat.mul_comm (2 ^ s)] at h3
  omega
end
theorem val_zero_getD : ∀ {l : List Nat}, val l = 0 → ∀ p, l.getD p 0 = 0
  | [], _, p => by simp
  | x :: xs, h, p => by
      simp only [val] at h
      have h1 : x = 0 := by omega
      have h2 : val xs = 0 := by omega
      cases p with
      | zero => simpa using h1
      | succ p => simpa using val_zero_getD h2 p
theorem trim_zero {l : List Nat} {n : Nat} (hn : n = l.length) : ∀ p, trimN n l ≤ p → l.getD p 0 = 0 := fun p hp => by
  subst hn
  have h1 := (trimN_spec l.length l (Nat.le_refl _)).2
  rw [List.take_length] at h1
  have h2 := val_split l (trimN l.length l) (trimN_le _ _)
  rw [h1] at h2
  have h3 : val (l.drop (trimN l.length l)) = 0 := by
    rcases Nat.eq_zero_or_pos (val (l.drop (trimN l.length l))) with e | e
    · exact e
    · have := Nat.mul_pos (powpos (trimN l.length l)) e; omega
  have h4 := val_zero_getD h3 (p - trimN l.length l)
  rwa [getD_drop, show trimN l.length l + (p - trimN l.length l) = p by omega] at h4
theorem low_bits {l : List Nat} {r s : Nat} (hs : s ≤ 32) (h : val l = r * 2 ^ s) : l.getD 0 0 % 2 ^ s = 0 := by
  cases l with
  | nil => simp
  | cons x xs =>
    simp only [val] at h
    have hd : 4294967296 = 2 ^ (32 - s) * 2 ^ s := by rw [← Nat.pow_add, show 32 - s + s = 32 by omega]
    have h1 : (x + 4294967296 * val xs) % 2 ^ s = 0 := by rw [h, Nat.mul_mod_left]
    rw [hd, Nat.mul_right_comm, Nat.add_mul_mod_self_right] at h1
    simpa using h1
theorem t0 : (0 : Int).toNat = 0 := rfl
theorem lim_one {x : Nat} (h : x < 4294967296) : Lim [x] := fun y hy => by simp at hy; omega

/-! ### A piece of a body as a theorem of its own -/
def subAt : List Nat → Code → Option Code
  | [], c => some c
  | i :: p, .seq x y => if i = 0 then subAt p x else subAt p y
  | i :: p, .cond _ x y => if i = 0 then subAt p x else subAt p y
  | _ :: p, .block _ c => subAt p c
  | _ :: p, .loop c => subAt p c
  | _, _ => none
def subF (fn : Func) (p : List Nat) : Option Code := fn.body.bind (subAt p)
section
variable {P : Program} {Q : LEx → St → Prop} {L L' : St}
theorem wl_sub {fn : Func} {p : List Nat} {c : Code} (h : subF fn p = some c) (k : wpL P c Q L) : wpL P ((subF fn p).getD .skip) Q L := by rw [h]; exact k
theorem wl_eq {c : Code} (h : L' = L) (k : wpL P c Q L') : wpL P c Q L := by rw [← h]; exact k
end
theorem wl_eqS {P : Program} {Q : LEx → St → Prop} {L : St} {c : Code} {S : St → St} (h : S L = L) (k : wpL P c Q (S L)) : wpL P c Q L := by rw [← h]; exact k
theorem goal_of {Q : LEx → St → Prop} {S L : St} (k : Q .normal S) (h : S = L) : Q .normal L := h ▸ k
end Go.Lg
