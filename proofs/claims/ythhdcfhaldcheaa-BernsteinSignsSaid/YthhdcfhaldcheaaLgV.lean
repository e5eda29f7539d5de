/- Limbs of 32 bits, and what numbers stand for as logical values. -/
import Derived.Test.YthhdcfhaldcheaaLgO
set_option linter.unusedVariables false
set_option linter.unusedSimpArgs false
namespace Go.Lg

def val : List Nat → Nat
  | [] => 0
  | x :: xs => x + 4294967296 * val xs
def Lim (l : List Nat) : Prop := ∀ x ∈ l, x < 4294967296
def digF : Nat → Nat → List Nat
  | 0, _ => []
  | k + 1, n => if n = 0 then [] else n % 4294967296 :: digF k (n / 4294967296)
def dig (n : Nat) : List Nat := digF n n

theorem digF_zero : ∀ k, digF k 0 = []
  | 0 => rfl
  | k + 1 => by simp [digF]
theorem digF_fuel : ∀ (k j n : Nat), n ≤ k → n ≤ j → digF k n = digF j n
  | 0, j, n, h, _ => by
      have : n = 0 := by omega
      subst this; rw [digF_zero, digF_zero]
  | k + 1, 0, n, _, h => by
      have : n = 0 := by omega
      subst this; rw [digF_zero, digF_zero]
  | k + 1, j + 1, n, h1, h2 => by
      simp only [digF]
      split
      · rfl
      · rw [digF_fuel k j (n / 4294967296) (by omega) (by omega)]
theorem dig_zero : dig 0 = [] := rfl
theorem dig_pos {n : Nat} (h : 0 < n) : dig n = n % 4294967296 :: dig (n / 4294967296) := by
  unfold dig
  obtain ⟨k, rfl⟩ : ∃ k, n = k + 1 := ⟨n - 1, by omega⟩
  rw [digF, if_neg (by omega), digF_fuel k ((k + 1) / 4294967296) _ (by omega) (Nat.le_refl _)]
theorem val_dig (n : Nat) : val (dig n) = n := by
  induction n using Nat.strongRecOn with
  | _ n ih =>
    by_cases h : n = 0
    · subst h; rfl
    · rw [dig_pos (by omega), val, ih (n / 4294967296) (by omega)]; omega
theorem lim_dig (n : Nat) : Lim (dig n) := by
  induction n using Nat.strongRecOn with
  | _ n ih =>
    by_cases h : n = 0
    · subst h; intro x hx; cases hx
    · rw [dig_pos (by omega)]
      intro x hx
      rcases List.mem_cons.1 hx with rfl | hx
      · omega
      · exact ih _ (by omega) x hx
/-- without leading zeros -/
def Can (l : List Nat) : Prop := ∀ h : l ≠ [], l.getLast h ≠ 0
theorem can_dig (n : Nat) : Can (dig n) := by
  induction n using Nat.strongRecOn with
  | _ n ih =>
    by_cases h : n = 0
    · subst h; intro h; exact absurd rfl h
    · rw [dig_pos (by omega)]
      intro hne
      by_cases h2 : n / 4294967296 = 0
      · have e : dig (n / 4294967296) = [] := by rw [h2]; rfl
        simp only [e, List.getLast_singleton]; omega
      · have hne' : dig (n / 4294967296) ≠ [] := by rw [dig_pos (by omega)]; simp
        rw [List.getLast_cons hne']
        exact ih _ (by omega) hne'
theorem can_tail {x : Nat} {xs : List Nat} (h : Can (x :: xs)) : Can xs := fun hne => by
  have := h (List.cons_ne_nil _ _)
  rwa [List.getLast_cons hne] at this
theorem val_pos : ∀ {l : List Nat}, Can l → l ≠ [] → 0 < val l
  | [], _, h => absurd rfl h
  | [x], h, _ => by have := h (by simp); simp at this; simp [val]; omega
  | x :: y :: l, h, _ => by
      have := val_pos (can_tail h) (by simp)
      simp only [val] at this ⊢; omega
theorem dig_val : ∀ {l : List Nat}, Lim l → Can l → dig (val l) = l
  | [], _, _ => rfl
  | x :: xs, h1, h2 => by
      have hp := val_pos h2 (by simp)
      have hx := h1 x (by simp)
      have ih := dig_val (l := xs) (fun y hy => h1 y (by simp [hy])) (can_tail h2)
      rw [dig_pos hp]
      have e1 : val (x :: xs) % 4294967296 = x := by simp only [val]; omega
      have e2 : val (x :: xs) / 4294967296 = val xs := by simp only [val]; omega
      rw [e1, e2, ih]
theorem val_lt : ∀ {l : List Nat}, Lim l → val l < 4294967296 ^ l.length
  | [], _ => by simp [val]
  | x :: xs, h => by
      have ih := val_lt (l := xs) (fun y hy => h y (by simp [hy]))
      have hx := h x (by simp)
      simp only [val, List.length_cons, Nat.pow_succ]
      have : val xs + 1 ≤ 4294967296 ^ xs.length := ih
      have := Nat.mul_le_mul_right 4294967296 this
      omega
theorem val_append : ∀ (l m : List Nat), val (l ++ m) = val l + 4294967296 ^ l.length * val m
  | [], m => by simp [val]
  | x :: xs, m => by
      simp only [List.cons_append, val, val_append xs m, List.length_cons, Nat.pow_succ]
      rw [Nat.mul_add, ← Nat.mul_assoc, Nat.mul_comm 4294967296 (4294967296 ^ xs.length)]; omega
theorem val_zeros : ∀ k, val (List.replicate k 0) = 0
  | 0 => rfl
  | k + 1 => by simp [List.replicate_succ, val, val_zeros k]
theorem dig_length_le {n k : Nat} (h : n < 4294967296 ^ k) : (dig n).length ≤ k := by
  induction k generalizing n with
  | zero => have : n = 0 := by simpa using h
            subst this; simp [dig_zero]
  | succ k ih =>
    by_cases h0 : n = 0
    · subst h0; simp [dig_zero]
    · rw [dig_pos (by omega), List.length_cons]
      have := ih (n := n / 4294967296) (by rw [Nat.div_lt_iff_lt_mul (by omega)]; rwa [← Nat.pow_succ])
      omega
theorem dig_length_ge {n k : Nat} (h : (dig n).length ≤ k) : n < 4294967296 ^ k := by
  have h1 := val_lt (lim_dig n)
  rw [val_dig] at h1
  exact Nat.lt_of_lt_of_le h1 (Nat.pow_le_pow_right (by omega) h)
theorem dig_length_lt_iff {n k : Nat} : (dig n).length ≤ k ↔ n < 4294967296 ^ k := ⟨dig_length_ge, dig_length_le⟩
theorem dig_eq_nil {n : Nat} : dig n = [] ↔ n = 0 := by
  constructor
  · intro h; have := val_dig n; rw [h] at this; exact this.symm
  · rintro rfl; rfl
theorem lim_append {l m : List Nat} (h1 : Lim l) (h2 : Lim m) : Lim (l ++ m) := fun x hx => by
  rcases List.mem_append.1 hx with h | h
  · exact h1 x h
  · exact h2 x h
theorem lim_take {l : List Nat} (h : Lim l) (k : Nat) : Lim (l.take k) := fun x hx => h x (List.mem_of_mem_take hx)
theorem lim_drop {l : List Nat} (h : Lim l) (k : Nat) : Lim (l.drop k) := fun x hx => h x (List.mem_of_mem_drop hx)
theorem lim_zeros (k : Nat) : Lim (List.replicate k 0) := fun x hx => by rw [(List.mem_replicate.1 hx).2]; omega
theorem lim_getD {l : List Nat} (h : Lim l) (k : Nat) : l.getD k 0 < 4294967296 := by
  rw [List.getD_eq_getElem?_getD]
  cases hq : l[k]? with
  | none => simp
  | some x => simpa using h x (List.mem_of_getElem? hq)
theorem val_take_succ {l : List Nat} {k : Nat} (h : k < l.length) : val (l.take (k + 1)) = val (l.take k) + 4294967296 ^ k * l.getD k 0 := by
  rw [List.take_succ_eq_append_getElem h, val_append, List.length_take, Nat.min_eq_left (by omega), List.getD_eq_getElem?_getD, List.getElem?_eq_getElem h]
  simp [val]
/-- the limbs up to the last one that is not 0 -/
def trimN : Nat → List Nat → Nat
  | 0, _ => 0
  | n + 1, l => if l.getD n 0 = 0 then trimN n l else n + 1
theorem trimN_le : ∀ (n : Nat) (l : List Nat), trimN n l ≤ n
  | 0, _ => by simp [trimN]
  | n + 1, l => by simp only [trimN]; split; have := trimN_le n l; omega; omega
theorem trimN_spec : ∀ (n : Nat) (l : List Nat), n ≤ l.length → Can (l.take (trimN n l)) ∧ val (l.take (trimN n l)) = val (l.take n)
  | 0, l, _ => by simp [trimN, Can]
  | n + 1, l, h => by
      simp only [trimN]
      split
      · rename_i h0
        have ih := trimN_spec n l (by omega)
        refine ⟨ih.1, ih.2.trans ?_⟩
        rw [val_take_succ (by omega), h0]; simp
      · rename_i h0
        refine ⟨fun hne => ?_, rfl⟩
        rw [List.getLast_eq_getElem]
        simp only [List.length_take, Nat.min_eq_left h, Nat.add_sub_cancel, List.getElem_take]
        rw [List.getD_eq_getElem?_getD, List.getElem?_eq_getElem (by omega)] at h0
        exact h0
def trimL (l : List Nat) : List Nat := l.take (trimN l.length l)
theorem trimL_dig {l : List Nat} (h : Lim l) : trimL l = dig (val l) := by
  have := trimN_spec l.length l (Nat.le_refl _)
  rw [List.take_length] at this
  rw [← this.2]
  exact (dig_val (lim_take h _) this.1).symm
theorem trimL_can {l : List Nat} (h : Can l) : trimL l = l := by
  unfold trimL
  cases hl : l.length with
  | zero => have := List.eq_nil_of_length_eq_zero hl; subst this; rfl
  | succ n =>
    have hne : l ≠ [] := by rintro rfl; simp at hl
    have := h hne
    rw [List.getLast_eq_getElem] at this
    simp only [trimN]
    rw [if_neg]
    · rw [← hl, List.take_length]
    · rw [List.getD_eq_getElem?_getD, List.getElem?_eq_getElem (by omega)]
      simp only [hl, Nat.add_sub_cancel] at this
      exact this

/-! ### Numbers as logical values -/
def u32L (n : Nat) : LV := .v (.int .u32 n)
def i64L (n : Int) : LV := .v (.int .i64 n)
theorem u32E : EncOK u32L 1 false := ⟨fun _ => rfl, fun _ => rfl, fun _ => rfl⟩
theorem i64E : EncOK i64L 1 false := ⟨fun _ => rfl, fun _ => rfl, fun _ => rfl⟩
/-- limbs -/
def limL (l : List Nat) : LV := .list 1 (l.map u32L)
def magL (n : Nat) : LV := .list 1 ((dig n).map u32L)
theorem magL_pure (n : Nat) : (magL n).pure = true := by simp only [magL, LV.pure]; exact pures_map u32E _
def denN (q : Rat) : Nat := if q.den = 1 then 0 else q.den
@[irreducible] def ratL (q : Rat) : LV := .agg [.v (.bool (decide (q < 0))), magL q.num.natAbs, magL (denN q)]
theorem ratL_eq (q : Rat) : ratL q = .agg [.v (.bool (decide (q < 0))), magL q.num.natAbs, magL (denN q)] := by unfold ratL; rfl
theorem ratE : EncOK ratL 3 true := by
  refine ⟨fun q => ?_, fun q => ?_, fun q => ?_⟩
  · rw [ratL_eq]; rfl
  · rw [ratL_eq]; rfl
  · rw [ratL_eq]; simp [LV.pure, pures, magL_pure]
theorem ratL_neg (q : Rat) : (ratL q).at 0 1 false = some (.v (.bool (decide (q < 0)))) := by rw [ratL_eq]; rfl
theorem ratL_num (q : Rat) : (ratL q).at 1 1 false = some (magL q.num.natAbs) := by rw [ratL_eq]; rfl
theorem ratL_den (q : Rat) : (ratL q).at 2 1 false = some (magL (denN q)) := by rw [ratL_eq]; rfl
theorem ratL_all (q : Rat) : (ratL q).at 0 3 true = some (ratL q) := by
  have := at_self (ratL q) (ratE.pure q)
  rwa [ratE.csize, ratE.isAgg] at this
theorem ratL_zero : ratL 0 = .agg [.v (.bool false), .list 1 [], .list 1 []] := by rw [ratL_eq]; rfl
theorem ratL_kill (q : Rat) (b : Nat) : (ratL q).kill b = ratL q := LV.kill_pure b _ (ratE.pure q)
theorem kills_map {α : Type} {e : α → LV} {sz : Nat} {ag : Bool} (h : EncOK e sz ag) (b : Nat) (l : List α) : kills b (l.map e) = l.map e := kills_pure b _ (pures_map h l)
theorem ratL_ren (q : Rat) (f : Nat → Nat) : (ratL q).ren f = ratL q := LV.ren_pure f _ (ratE.pure q)
theorem magL_ren (n : Nat) (f : Nat → Nat) : (magL n).ren f = magL n := LV.ren_pure f _ (magL_pure n)

/-! ### Zero values -/
section
variable {Z : Nat → Prop} {μ : Nat → Option Nat} {w : World}
theorem repV0 {x : Value} (h : x.oneCell' = true) : Rep Z μ w (.v x) [x] := by simp only [Rep]; exact ⟨trivial, h⟩
theorem repNil0 (sz : Nat) : Rep Z μ w (.list sz []) [.slice none 0 0] := by simp only [Rep]; exact ⟨none, 0, 0, rfl, rfl, Nat.le_refl _, .inl trivial, rfl⟩
theorem repAgg0 {l : List LV} {cs : List Value} (h : RepFs Z μ w l cs) : Rep Z μ w (.agg l) cs := by simp only [Rep]; exact h
theorem repFs0 : RepFs Z μ w [] [] := by simp only [RepFs]
theorem repFs1 {x : LV} {xs : List LV} {c1 c2 : List Value} (h1 : c1.length = x.csize) (h2 : Rep Z μ w x c1) (h3 : RepFs Z μ w xs c2) : RepFs Z μ w (x :: xs) (c1 ++ c2) := by
  simp only [RepFs]; exact ⟨c1, c2, rfl, h1, h2, h3⟩
theorem repRat0 : Rep Z μ w (ratL 0) [.bool false, .slice none 0 0, .slice none 0 0] := by
  rw [ratL_zero]
  exact repAgg0 (repFs1 (c1 := [.bool false]) rfl (repV0 rfl) (repFs1 (c1 := [.slice none 0 0]) rfl (repNil0 1) (repFs1 (c1 := [.slice none 0 0]) rfl (repNil0 1) repFs0)))
end
end Go.Lg
