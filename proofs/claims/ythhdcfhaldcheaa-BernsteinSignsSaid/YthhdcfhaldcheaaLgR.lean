/- Rational numbers: signs, numerators and denominators. -/
import Derived.Test.YthhdcfhaldcheaaLgS
set_option linter.unusedVariables false
set_option linter.unusedSimpArgs false
namespace Go.Lg
def sgI (s : Bool) (n : Nat) : Int := bif s then -(n : Int) else n
theorem sgI_zero (s : Bool) : sgI s 0 = 0 := by cases s <;> rfl
theorem sgI_abs (s : Bool) (n : Nat) : (sgI s n).natAbs = n := by cases s <;> simp [sgI]
theorem sgI_num (q : Rat) : sgI (decide (q < 0)) q.num.natAbs = q.num := by
  have h : (q < 0) ↔ q.num < 0 := by rw [← Rat.not_le, ← Rat.num_nonneg]; omega
  by_cases hq : q < 0
  · have := h.1 hq; simp only [hq, decide_true, sgI, cond_true]; omega
  · have h2 : ¬ q.num < 0 := fun x => hq (h.2 x)
    simp only [hq, decide_false, sgI, cond_false]; omega
theorem sgI_lt (s : Bool) {n : Nat} (hn : 0 < n) : decide (sgI s n < 0) = s := by
  cases s
  · rw [decide_eq_false_iff_not]; simp only [sgI, cond_false]; omega
  · rw [decide_eq_true_eq]; simp only [sgI, cond_true]; omega
theorem rat_lt0 (q : Rat) : (q < 0) ↔ q.num < 0 := by rw [← Rat.not_le, ← Rat.num_nonneg]; omega
/-- the value of a sign, a numerator and a denominator (0 over a denominator 0) -/
def qv (s : Bool) (n d : Nat) : Rat := mkRat (sgI s n) d
theorem qv_num (s : Bool) {n d : Nat} (hn : 0 < n) (hd : 0 < d) : (qv s n d).num.natAbs = n / n.gcd d := by
  rw [qv, Rat.num_mkRat, if_neg (by omega), sgI_abs, Nat.gcd_comm]
  have h : ((n.gcd d : Nat) : Int) ∣ sgI s n := by
    cases s
    · exact Int.natCast_dvd_natCast.2 (Nat.gcd_dvd_left _ _)
    · exact (Int.dvd_neg.2 (Int.natCast_dvd_natCast.2 (Nat.gcd_dvd_left _ _)))
  rw [Int.natAbs_ediv_of_dvd h, sgI_abs]
  simp
theorem qv_den (s : Bool) (n : Nat) {d : Nat} (hd : 0 < d) : (qv s n d).den = d / n.gcd d := by
  rw [qv, Rat.den_mkRat, if_neg (by omega), sgI_abs, Nat.gcd_comm]
theorem qv_lt (s : Bool) {n d : Nat} (hn : 0 < n) (hd : 0 < d) : decide (qv s n d < 0) = s := by
  have h1 : (qv s n d).num = sgI s n / (n.gcd d : Nat) := by rw [qv, Rat.num_mkRat, if_neg (by omega), sgI_abs, Nat.gcd_comm]
  have hg : 0 < n.gcd d := Nat.gcd_pos_of_pos_left _ hn
  have h2 := qv_num s hn hd
  have h3 : n / n.gcd d ≠ 0 := by
    have := Nat.div_pos (Nat.le_of_dvd hn (Nat.gcd_dvd_left n d)) hg; omega
  cases s
  · have : 0 ≤ (qv false n d).num := by rw [h1]; exact Int.ediv_nonneg (by simp [sgI]) (by omega)
    simp only [decide_eq_false_iff_not]; rw [rat_lt0]; omega
  · have : (qv true n d).num ≤ 0 := by
      rw [h1]; simp only [sgI, cond_true]
      have hd' : ((n.gcd d : Nat) : Int) ∣ (n : Int) := Int.natCast_dvd_natCast.2 (Nat.gcd_dvd_left _ _)
      rw [Int.neg_ediv_of_dvd hd']
      have := Int.ediv_nonneg (a := (n:Int)) (b := (n.gcd d : Nat)) (by omega) (by omega)
      omega
    simp only [decide_eq_true_eq]; rw [rat_lt0]; omega
theorem qv_zero (s : Bool) (d : Nat) : qv s 0 d = 0 := by rw [qv, sgI_zero, Rat.zero_mkRat]
theorem qv_den0 (s : Bool) (n : Nat) : qv s n 0 = 0 := by rw [qv]; simp
theorem qv_self (q : Rat) : qv (decide (q < 0)) q.num.natAbs q.den = q := by rw [qv, sgI_num, Rat.mkRat_self]
/-- the number with another sign -/
def sgR (s : Bool) (q : Rat) : Rat := qv s q.num.natAbs q.den
theorem sgR_self (q : Rat) : sgR (decide (q < 0)) q = q := qv_self q
theorem sgI_not (s : Bool) (n : Nat) : sgI (!s) n = - sgI s n := by cases s <;> simp [sgI]
theorem sgR_not (q : Rat) : sgR (!decide (q < 0)) q = -q := by
  rw [sgR, qv, sgI_not, ← Rat.neg_mkRat, sgI_num, Rat.mkRat_self]
theorem qv_mul (s t : Bool) (n d m e : Nat) : qv s n d * qv t m e = qv (s != t) (n * m) (d * e) := by
  simp only [qv, Rat.mkRat_mul_mkRat]
  congr 1
  cases s <;> cases t <;> simp [sgI, Int.mul_neg, Int.neg_mul]
theorem qv_add_same (s : Bool) {n d m e : Nat} (hd : 0 < d) (he : 0 < e) : qv s n d + qv s m e = qv s (n * e + m * d) (d * e) := by
  simp only [qv]; rw [Rat.mkRat_add_mkRat _ _ (by omega) (by omega)]
  congr 1
  cases s <;> simp [sgI, Int.neg_mul] <;> omega
theorem qv_add_ne (s t : Bool) {n d m e : Nat} (hd : 0 < d) (he : 0 < e) (hst : s ≠ t) (h : m * d ≤ n * e) : qv s n d + qv t m e = qv s (n * e - m * d) (d * e) := by
  simp only [qv]; rw [Rat.mkRat_add_mkRat _ _ (by omega) (by omega)]
  congr 1
  cases s <;> cases t <;> simp_all [sgI, Int.neg_mul] <;> omega
theorem qv_add_ne' (s t : Bool) {n d m e : Nat} (hd : 0 < d) (he : 0 < e) (hst : s ≠ t) (h : n * e ≤ m * d) : qv s n d + qv t m e = qv t (m * d - n * e) (d * e) := by
  simp only [qv]; rw [Rat.mkRat_add_mkRat _ _ (by omega) (by omega)]
  congr 1
  cases s <;> cases t <;> simp_all [sgI, Int.neg_mul] <;> omega
theorem rat_inv_neg (x : Rat) : (-x)⁻¹ = -x⁻¹ := by grind
theorem qv_inv (s : Bool) (n d : Nat) : (qv s n d)⁻¹ = qv s d n := by
  have h0 : (qv false n d)⁻¹ = qv false d n := by
    simp only [qv, Rat.mkRat_eq_div, sgI, cond_false]
    rw [Rat.div_def, Rat.inv_mul_rev, Rat.inv_inv, Rat.div_def]
    rfl
  cases s
  · exact h0
  · have e : ∀ n d : Nat, qv true n d = - qv false n d := fun n d => by simp only [qv, sgI, cond_true, cond_false, Rat.neg_mkRat]
    rw [e, e, rat_inv_neg, h0]
theorem qv_div (s t : Bool) (n d m e : Nat) : qv s n d / qv t m e = qv (s != t) (n * e) (d * m) := by
  rw [Rat.div_def, qv_inv, qv_mul]
theorem qv_scale (s : Bool) {n d k : Nat} (hk : 0 < k) : qv s (n * k) (d * k) = qv s n d := by
  by_cases hd : d = 0
  · subst hd; simp [qv_den0]
  simp only [qv]
  rw [Rat.mkRat_eq_iff (by have := Nat.mul_pos (Nat.pos_of_ne_zero hd) hk; omega) hd]
  cases s <;> simp [sgI] <;> grind
theorem qv_same_den (s t : Bool) (n m d : Nat) (hd : 0 < d) : qv s (n * d) (d * d) = qv s n d := qv_scale s hd
theorem denN_eq (q : Rat) : denN q = if q.den = 1 then 0 else q.den := rfl
/-- the limbs of numerator and denominator -/
def rl (q : Rat) : Nat := max (dig q.num.natAbs).length (dig q.den).length
theorem rl_num (q : Rat) : (dig q.num.natAbs).length ≤ rl q := Nat.le_max_left _ _
theorem rl_den (q : Rat) : (dig q.den).length ≤ rl q := Nat.le_max_right _ _
theorem rl_denN (q : Rat) : (dig (denN q)).length ≤ rl q := by
  rw [denN_eq]; split
  · simp [dig_zero]
  · exact rl_den q
theorem rl_le {q : Rat} {k : Nat} (hn : q.num.natAbs < 4294967296 ^ k) (hd : q.den < 4294967296 ^ k) : rl q ≤ k :=
  Nat.max_le.2 ⟨dig_length_le hn, dig_length_le hd⟩
theorem rl_lt (q : Rat) : q.num.natAbs < 4294967296 ^ rl q ∧ q.den < 4294967296 ^ rl q := ⟨dig_length_ge (rl_num q), dig_length_ge (rl_den q)⟩
theorem rl_pos (q : Rat) : 1 ≤ rl q := by
  have := rl_den q
  have h : dig q.den ≠ [] := fun h => q.den_nz (dig_eq_nil.1 h)
  have := List.length_pos_iff.2 h
  omega
theorem rl_qv (s : Bool) {n d k : Nat} (hn : n < 4294967296 ^ k) (hd : d < 4294967296 ^ k) : rl (qv s n d) ≤ max k 1 := by
  by_cases hd0 : d = 0
  · subst hd0; rw [qv_den0]; exact Nat.le_trans (Nat.le_of_eq (by rfl)) (Nat.le_max_right _ _)
  by_cases hn0 : n = 0
  · subst hn0; rw [qv_zero]; exact Nat.le_trans (Nat.le_of_eq (by rfl)) (Nat.le_max_right _ _)
  refine Nat.le_trans (rl_le (k := k) ?_ ?_) (Nat.le_max_left _ _)
  · rw [qv_num s (by omega) (by omega)]; exact Nat.lt_of_le_of_lt (Nat.div_le_self _ _) hn
  · rw [qv_den s n (by omega)]; exact Nat.lt_of_le_of_lt (Nat.div_le_self _ _) hd
theorem rl_neg (q : Rat) : rl (-q) = rl q := by simp [rl]
theorem pow_lt_add {x y a b : Nat} (hx : x < 4294967296 ^ a) (hy : y < 4294967296 ^ b) : x * y < 4294967296 ^ (a + b) := by
  rw [Nat.pow_add]; exact Nat.mul_lt_mul'' hx hy
theorem rl_mul (a b : Rat) : rl (a * b) ≤ rl a + rl b := by
  have ha := rl_lt a
  have hb := rl_lt b
  have := rl_qv (decide (a < 0) != decide (b < 0)) (pow_lt_add ha.1 hb.1) (pow_lt_add ha.2 hb.2)
  rw [← qv_mul, qv_self, qv_self] at this
  have := rl_pos a
  omega
theorem rl_div (a b : Rat) : rl (a / b) ≤ rl a + rl b := by
  have ha := rl_lt a
  have hb := rl_lt b
  have := rl_qv (decide (a < 0) != decide (b < 0)) (pow_lt_add ha.1 hb.2) (pow_lt_add ha.2 hb.1)
  rw [← qv_div, qv_self, qv_self] at this
  have := rl_pos a
  omega
theorem add_pow_lt {x y k : Nat} (hx : x < 4294967296 ^ k) (hy : y < 4294967296 ^ k) : x + y < 4294967296 ^ (k + 1) := by
  rw [Nat.pow_succ]; omega
theorem rl_add (a b : Rat) : rl (a + b) ≤ rl a + rl b + 1 := by
  have ha := rl_lt a
  have hb := rl_lt b
  have hd := pow_lt_add ha.2 hb.2
  have hd' : a.den * b.den < 4294967296 ^ (rl a + rl b + 1) := Nat.lt_trans hd (Nat.pow_lt_pow_right (by omega) (by omega))
  have h1 := pow_lt_add ha.1 hb.2
  have h2 := pow_lt_add ha.2 hb.1
  have hs := add_pow_lt h1 h2
  have key : ∀ n, n ≤ a.num.natAbs * b.den + a.den * b.num.natAbs → ∀ s, a + b = qv s n (a.den * b.den) → rl (a + b) ≤ rl a + rl b + 1 := by
    intro n hn s e
    rw [e]
    have := rl_qv s (Nat.lt_of_le_of_lt hn hs) hd'
    omega
  rw [Nat.mul_comm a.den b.num.natAbs] at key
  by_cases hst : decide (a < 0) = decide (b < 0)
  · refine key _ (Nat.le_refl _) (decide (a < 0)) ?_
    have := qv_add_same (decide (a < 0)) (n := a.num.natAbs) (m := b.num.natAbs) a.den_pos b.den_pos
    rw [← this, qv_self, hst, qv_self]
  · rcases Nat.le_total (b.num.natAbs * a.den) (a.num.natAbs * b.den) with h | h
    · refine key (a.num.natAbs * b.den - b.num.natAbs * a.den) (by omega) (decide (a < 0)) ?_
      have := qv_add_ne _ _ a.den_pos b.den_pos hst h
      rw [← this, qv_self, qv_self]
    · refine key (b.num.natAbs * a.den - a.num.natAbs * b.den) (by omega) (decide (b < 0)) ?_
      have := qv_add_ne' _ _ a.den_pos b.den_pos hst h
      rw [← this, qv_self, qv_self]
theorem rl_sub (a b : Rat) : rl (a - b) ≤ rl a + rl b + 1 := by
  have := rl_add a (-b)
  rw [rl_neg] at this
  rwa [Rat.sub_eq_add_neg]
theorem ratL_qv (s : Bool) {n d : Nat} (hn : 0 < n) (hd : 0 < d) : ratL (qv s n d) = .agg [.v (.bool s), magL (n / n.gcd d), magL (if d / n.gcd d = 1 then 0 else d / n.gcd d)] := by
  rw [ratL_eq, qv_lt s hn hd, qv_num s hn hd, denN_eq, qv_den s n hd]
/-- -1, 0 or 1, as a is less than b, equal or greater -/
def cmpR (a b : Rat) : Int := if a < b then -1 else if b < a then 1 else 0
section
variable {P : Program} {H : Heap} {ρ : Operand → LV} {T : TypeId} {p x : Operand} {b i d sz : Nat} {q : Rat} {vals : List LV} {m ag : Bool} {α : Type} {e : α → LV} {a : α}
theorem OpP.ldNeg (hp : ρ p = .eptr b 3 i 0) (hb : H b = some ⟨3, vals, m⟩) (hi : vals[i]? = some (ratL q)) (hT : TyIs P T 1 false) : OpP P H ρ (.load T p) (.v (.bool (decide (q < 0)))) := .loadE hp hb rfl hi (ratE.csize _) (ratL_neg q) hT
theorem OpP.ldNum (hp : ρ p = .eptr b 3 i 1) (hb : H b = some ⟨3, vals, m⟩) (hi : vals[i]? = some (ratL q)) (hT : TyIs P T 1 false) : OpP P H ρ (.load T p) (magL q.num.natAbs) := .loadE hp hb rfl hi (ratE.csize _) (ratL_num q) hT
theorem OpP.ldDen (hp : ρ p = .eptr b 3 i 2) (hb : H b = some ⟨3, vals, m⟩) (hi : vals[i]? = some (ratL q)) (hT : TyIs P T 1 false) : OpP P H ρ (.load T p) (magL (denN q)) := .loadE hp hb rfl hi (ratE.csize _) (ratL_den q) hT
theorem OpP.ldRat (hp : ρ p = .eptr b 3 i 0) (hb : H b = some ⟨3, vals, m⟩) (hi : vals[i]? = some (ratL q)) (hT : TyIs P T 3 true) : OpP P H ρ (.load T p) (ratL q) := .loadE hp hb rfl hi (ratE.csize _) (ratL_all q) hT
theorem OpA.boxE (he : EncOK e sz ag) (hx : ρ x = e a) : OpA P ρ d (.box T x) (.eptr d sz 0 0) ⟨sz, [e a], true⟩ := by
  have h := OpA.box (P := P) (ρ := ρ) (d := d) (T := T) (x := x) (by rw [hx]; exact ⟨fun h => by have := he.pure a; rw [h] at this; simp [LV.pure] at this, LV.pure_ne_tup (he.pure a)⟩)
  rwa [hx, he.csize] at h
theorem OpA.allocE (he : EncOK e sz ag) (hz : ZeroOK P T (e a)) : OpA P ρ d (.alloc T) (.eptr d sz 0 0) ⟨sz, [e a], true⟩ := by
  have h := OpA.alloc (ρ := ρ) (d := d) hz
  rwa [he.csize] at h
end
section
variable {P : Program} {L : St} {dst : Option Nat} {T : TypeId} {p x : Operand} {b : Nat} {q : Rat} {zs : List LV}
theorem OpT.stRat (hp : L.ev p = .eptr b 3 0 0) (hb : L.heap b = some ⟨3, [.agg zs], true⟩) (hz : csizes zs = 3) (hx : L.ev x = ratL q) (hT : TyIs P T 3 true) :
    OpT P L dst (.store T p x) ((L.setB b (some ⟨3, [ratL q], true⟩)).put dst .any) := by
  have h := OpT.store (P := P) (dst := dst) (T := T) (p := p) (x := x) (y := .agg zs) (y' := ratL q) hp hb rfl rfl rfl (by simp [LV.csize, hz])
    (by rw [hx]; simp [LV.put, hz, ratE.csize, ratE.isAgg]) (by rw [hx, ratE.csize, ratE.isAgg]; exact hT)
    (by rw [hx]; exact ⟨fun h => by have := ratE.pure q; rw [h] at this; simp [LV.pure] at this, LV.pure_ne_tup (ratE.pure q)⟩)
  exact h
end
theorem imm_refS {L : St} {α : Type} {e : α → LV} {ag : Bool} {bs : List Nat} {b sz off len : Nat} {l l' : List α} {m : Bool} (he : EncOK e sz ag) (hb : L.heap b = some ⟨sz, l.map e, m⟩) (hbs : bs.contains b = true) (hl : off + len ≤ l.length) (h : (l.drop off).take len = l') :
    Imm (L.frz bs).heap (.ref b sz off len) (.list sz (l'.map e)) := by
  have := imm_ref (L := L) (bs := bs) (off := off) (len := len) hb hbs (pures_map he l) (by simpa using hl)
  rwa [← List.map_drop, ← List.map_take, h] at this
theorem max_abs {n : Int} (h1 : -9223372036854775808 < n) (h2 : n ≤ 9223372036854775807) : (if IntKind.i64.wrap (0 - n) > n then IntKind.i64.wrap (0 - n) else n) = ((n.natAbs : Nat) : Int) := by
  rw [IntWalk.i64_in _ (by omega)]; split <;> omega
theorem qv_int (n : Int) : qv (decide (n < 0)) n.natAbs 1 = (n : Rat) := by
  have : sgI (decide (n < 0)) n.natAbs = n := by
    by_cases h : n < 0
    · simp only [h, decide_true, sgI, cond_true]; omega
    · simp only [h, decide_false, sgI, cond_false]; omega
  rw [qv, this, Rat.mkRat_one]
theorem qv_ints (n d : Int) : qv (decide (n < 0) != decide (d < 0)) n.natAbs d.natAbs = (n : Rat) / (d : Rat) := by
  rw [← qv_int n, ← qv_int d, qv_div]; simp
theorem sm_den {q : Rat} (h : q.den < 4294967296) : (dig (denN q)).length ≤ 1 := dig_len_le1.2 (by rw [denN_eq]; split <;> omega)
theorem denN_pos {q : Rat} (h : 0 < (dig (denN q)).length) : denN q = q.den := by
  rw [denN_eq] at h ⊢; split
  · rename_i h1; rw [if_pos h1] at h; simp [dig_zero] at h
  · rfl
theorem denN_zero {q : Rat} (h : (dig (denN q)).length = 0) : q.den = 1 := by
  have h0 := dig_eq_nil.1 (List.eq_nil_of_length_eq_zero h)
  rw [denN_eq] at h0
  have := q.den_pos
  split at h0
  · assumption
  · omega
/-- numerator and denominator have one limb -/
def smB (q : Rat) : Bool := decide (q.num.natAbs < 4294967296 ∧ q.den < 4294967296)
def pN (q : Rat) : Nat := if smB q then q.num.natAbs else 0
def pD (q : Rat) : Nat := if smB q then q.den else 0
def sgnR (a : Rat) : Int := if a = 0 then 0 else if a < 0 then -1 else 1
theorem sgnR_eq (q : Rat) : sgnR q = if q.num.natAbs = 0 then 0 else if q < 0 then -1 else 1 := by
  unfold sgnR
  by_cases h : q = 0
  · subst h; rfl
  · have : ¬ q.num.natAbs = 0 := fun h2 => h (Rat.num_eq_zero.1 (by omega))
    rw [if_neg h, if_neg this]
def putd (l : List Nat) (off n : Nat) : List Nat := if n < 4294967296 then l.set off n else (l.set off (n % 4294967296)).set (off + 1) (n / 4294967296)
def dlen (n : Nat) : Nat := if n < 4294967296 then 1 else 2
theorem dig_dlen {n : Nat} (h0 : 0 < n) (h : n < 18446744073709551616) : (n < 4294967296 ∧ dlen n = 1 ∧ dig n = [n]) ∨ (4294967296 ≤ n ∧ dlen n = 2 ∧ dig n = [n % 4294967296, n / 4294967296]) := by
  by_cases hn : n < 4294967296
  · exact .inl ⟨hn, by simp [dlen, hn], dig_small h0 hn⟩
  · refine .inr ⟨by omega, by simp [dlen, hn], ?_⟩
    rw [dig_pos h0, dig_small (by omega) (by omega)]
theorem short_one {n : Nat} (h0 : 0 < n) (h : n < 18446744073709551616) : ((putd [0, 0, 0, 0] 0 n).drop 0).take (dlen n) = dig n := by
  rcases dig_dlen h0 h with ⟨h1, h2, h3⟩ | ⟨h1, h2, h3⟩
  · rw [h2, h3]; simp [putd, h1]
  · rw [h2, h3]; simp [putd, Nat.not_lt.2 h1]
theorem short_two {n d : Nat} (h0 : 0 < n) (h : n < 18446744073709551616) (g0 : 0 < d) (g : d < 18446744073709551616) :
    ((putd (putd [0, 0, 0, 0] 0 n) (dlen n) d).drop 0).take (dlen n) = dig n ∧ ((putd (putd [0, 0, 0, 0] 0 n) (dlen n) d).drop (dlen n)).take (dlen d) = dig d := by
  rcases dig_dlen h0 h with ⟨h1, h2, h3⟩ | ⟨h1, h2, h3⟩ <;> rcases dig_dlen g0 g with ⟨g1, g2, g3⟩ | ⟨g1, g2, g3⟩ <;> rw [h2, h3, g2, g3] <;> simp [putd, *, Nat.not_lt.2]
theorem putd_len (l : List Nat) (off n : Nat) : (putd l off n).length = l.length := by unfold putd; split <;> simp
end Go.Lg
