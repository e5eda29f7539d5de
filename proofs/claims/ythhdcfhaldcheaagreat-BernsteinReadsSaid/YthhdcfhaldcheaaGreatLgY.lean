/- Limbs of 32 bits, and what numbers stand for as logical values. -/
import Derived.Test.YthhdcfhaldcheaaGreatLgO
import Derived.Laws.Cover3
set_option linter.unusedVariables false
set_option linter.unusedSimpArgs false
namespace Go.Lg

def val : List Nat → Nat
  | [] => 0
  | x :: xs => x + 4294967296 * val xs
def Lim (l : List Nat) : Prop := ∀ x ∈ l, x < 4294967296
def digF : Nat → Nat → List Nat
  | 0, _ => []
  | k + 1, n => if n = 0 then [] else n % 4294967296 :: digF k (n / 4294967296)
def dig (n : Nat) : List Nat := digF n n

theorem digF_zero : ∀ k, digF k 0 = []
  | 0 => rfl
  | k + 1 => by simp [digF]
theorem digF_fuel : ∀ (k j n : Nat), n ≤ k → n ≤ j → digF k n = digF j n
  | 0, j, n, h, _ => by
      have : n = 0 := by omega
      subst this; rw [digF_zero, digF_zero]
  | k + 1, 0, n, _, h => by
      have : n = 0 := by omega
      subst this; rw [digF_zero, digF_zero]
  | k + 1, j + 1, n, h1, h2 => by
      simp only [digF]
      split
      · rfl
      · rw [digF_fuel k j (n / 4294967296) (by omega) (by omega)]
theorem dig_zero : dig 0 = [] := rfl
theorem dig_pos {n : Nat} (h : 0 < n) : dig n = n % 4294967296 :: dig (n / 4294967296) := by
  unfold dig
  obtain ⟨k, rfl⟩ : ∃ k, n = k + 1 := ⟨n - 1, by omega⟩
  rw [digF, if_neg (by omega), digF_fuel k ((k + 1) / 4294967296) _ (by omega) (Nat.le_refl _)]
theorem val_dig (n : Nat) : val (dig n) = n := by
  induction n using Nat.strongRecOn with
  | _ n ih =>
    by_cases h : n = 0
    · subst h; rfl
    · rw [dig_pos (by omega), val, ih (n / 4294967296) (by omega)]; omega
theorem lim_dig (n : Nat) : Lim (dig n) := by
  induction n using Nat.strongRecOn with
  | _ n ih =>
    by_cases h : n = 0
    · subst h; intro x hx; cases hx
    · rw [dig_pos (by omega)]
      intro x hx
      rcases List.mem_cons.1 hx with rfl | hx
      · omega
      · exact ih _ (by omega) x hx
/-- without leading zeros -/
def Can (l : List Nat) : Prop := ∀ h : l ≠ [], l.getLast h ≠ 0
theorem can_dig (n : Nat) : Can (dig n) := by
  induction n using Nat.strongRecOn with
  | _ n ih =>
    by_cases h : n = 0
    · subst h; intro h; exact absurd rfl h
    · rw [dig_pos (by omega)]
      intro hne
      by_cases h2 : n / 4294967296 = 0
      · have e : dig (n / 4294967296) = [] := by rw [h2]; rfl
        simp only [e, List.getLast_singleton]; omega
      · have hne' : dig (n / 4294967296) ≠ [] := by rw [dig_pos (by omega)]; simp
        rw [List.getLast_cons hne']
        exact ih _ (by omega) hne'
theorem can_tail {x : Nat} {xs : List Nat} (h : Can (x :: xs)) : Can xs := fun hne => by
  have := h (List.cons_ne_nil _ _)
  rwa [List.getLast_cons hne] at this
theorem val_pos : ∀ {l : List Nat}, Can l → l ≠ [] → 0 < val l
  | [], _, h => absurd rfl h
  | [x], h, _ => by have := h (by simp); simp at this; simp [val]; omega
  | x :: y :: l, h, _ => by
      have := val_pos (can_tail h) (by simp)
      simp only [val] at this ⊢; omega
theorem dig_val : ∀ {l : List Nat}, Lim l → Can l → dig (val l) = l
  | [], _, _ => rfl
  | x :: xs, h1, h2 => by
      have hp := val_pos h2 (by simp)
      have hx := h1 x (by simp)
      have ih := dig_val (l := xs) (fun y hy => h1 y (by simp [hy])) (can_tail h2)
      rw [dig_pos hp]
      have e1 : val (x :: xs) % 4294967296 = x := by simp only [val]; omega
      have e2 : val (x :: xs) / 4294967296 = val xs := by simp only [val]; omega
      rw [e1, e2, ih]
theorem val_lt : ∀ {l : List Nat}, Lim l → val l < 4294967296 ^ l.length
  | [], _ => by simp [val]
  | x :: xs, h => by
      have ih := val_lt (l := xs) (fun y hy => h y (by simp [hy]))
      have hx := h x (by simp)
      simp only [val, List.length_cons, Nat.pow_succ]
      have : val xs + 1 ≤ 4294967296 ^ xs.length := ih
      have := Nat.mul_le_mul_right 4294967296 this
      omega
theorem val_append : ∀ (l m : List Nat), val (l ++ m) = val l + 4294967296 ^ l.length * val m
  | [], m => by simp [val]
  | x :: xs, m => by
      simp only [List.cons_append, val, val_append xs m, List.length_cons, Nat.pow_succ]
      rw [Nat.mul_add, ← Nat.mul_assoc, Nat.mul_comm 4294967296 (4294967296 ^ xs.length)]; omega
theorem val_zeros : ∀ k, val (List.replicate k 0) = 0
  | 0 => rfl
  | k + 1 => by simp [List.replicate_succ, val, val_zeros k]
theorem dig_length_le {n k : Nat} (h : n < 4294967296 ^ k) : (dig n).length ≤ k := by
  induction k generalizing n with
  | zero => have : n = 0 := by simpa using h
            subst this; simp [dig_zero]
  | succ k ih =>
    by_cases h0 : n = 0
    · subst h0; simp [dig_zero]
    · rw [dig_pos (by omega), List.length_cons]
      have := ih (n := n / 4294967296) (by rw [Nat.div_lt_iff_lt_mul (by omega)]; rwa [← Nat.pow_succ])
      omega
theorem dig_length_ge {n k : Nat} (h : (dig n).length ≤ k) : n < 4294967296 ^ k := by
  have h1 := val_lt (lim_dig n)
  rw [val_dig] at h1
  exact Nat.lt_of_lt_of_le h1 (Nat.pow_le_pow_right (by omega) h)
theorem dig_length_lt_iff {n k : Nat} : (dig n).length ≤ k ↔ n < 4294967296 ^ k := ⟨dig_length_ge, dig_length_le⟩
theorem dig_eq_nil {n : Nat} : dig n = [] ↔ n = 0 := by
  constructor
  · intro h; have := val_dig n; rw [h] at this; exact this.symm
  · rintro rfl; rfl
theorem lim_append {l m : List Nat} (h1 : Lim l) (h2 : Lim m) : Lim (l ++ m) := fun x hx => by
  rcases List.mem_append.1 hx with h | h
  · exact h1 x h
  · exact h2 x h
theorem lim_take {l : List Nat} (h : Lim l) (k : Nat) : Lim (l.take k) := fun x hx => h x (List.mem_of_mem_take hx)
theorem lim_drop {l : List Nat} (h : Lim l) (k : Nat) : Lim (l.drop k) := fun x hx => h x (List.mem_of_mem_drop hx)
theorem lim_zeros (k : Nat) : Lim (List.replicate k 0) := fun x hx => by rw [(List.mem_replicate.1 hx).2]; omega
theorem lim_getD {l : List Nat} (h : Lim l) (k : Nat) : l.getD k 0 < 4294967296 := by
  rw [List.getD_eq_getElem?_getD]
  cases hq : l[k]? with
  | none => simp
  | some x => simpa using h x (List.mem_of_getElem? hq)
theorem val_take_succ {l : List Nat} {k : Nat} (h : k < l.length) : val (l.take (k + 1)) = val (l.take k) + 4294967296 ^ k * l.getD k 0 := by
  rw [List.take_succ_eq_append_getElem h, val_append, List.length_take, Nat.min_eq_left (by omega), List.getD_eq_getElem?_getD, List.getElem?_eq_getElem h]
  simp [val]
/-- the limbs up to the last one that is not 0 -/
def trimN : Nat → List Nat → Nat
  | 0, _ => 0
  | n + 1, l => if l.getD n 0 = 0 then trimN n l else n + 1
theorem trimN_le : ∀ (n : Nat) (l : List Nat), trimN n l ≤ n
  | 0, _ => by simp [trimN]
  | n + 1, l => by simp only [trimN]; split; have := trimN_le n l; omega; omega
theorem trimN_spec : ∀ (n : Nat) (l : List Nat), n ≤ l.length → Can (l.take (trimN n l)) ∧ val (l.take (trimN n l)) = val (l.take n)
  | 0, l, _ => by simp [trimN, Can]
  | n + 1, l, h => by
      simp only [trimN]
      split
      · rename_i h0
        have ih := trimN_spec n l (by omega)
        refine ⟨ih.1, ih.2.trans ?_⟩
        rw [val_take_succ (by omega), h0]; simp
      · rename_i h0
        refine ⟨fun hne => ?_, rfl⟩
        rw [List.getLast_eq_getElem]
        simp only [List.length_take, Nat.min_eq_left h, Nat.add_sub_cancel, List.getElem_take]
        rw [List.getD_eq_getElem?_getD, List.getElem?_eq_getElem (by omega)] at h0
        exact h0
def trimL (l : List Nat) : List Nat := l.take (trimN l.length l)
theorem trimL_dig {l : List Nat} (h : Lim l) : trimL l = dig (val l) := by
  have := trimN_spec l.length l (Nat.le_refl _)
  rw [List.take_length] at this
  rw [← this.2]
  exact (dig_val (lim_take h _) this.1).symm
theorem trimL_can {l : List Nat} (h : Can l) : trimL l = l := by
  unfold trimL
  cases hl : l.length with
  | zero => have := List.eq_nil_of_length_eq_zero hl; subst this; rfl
  | succ n =>
    have hne : l ≠ [] := by rintro rfl; simp at hl
    have := h hne
    rw [List.getLast_eq_getElem] at this
    simp only [trimN]
    rw [if_neg]
    · rw [← hl, List.take_length]
    · rw [List.getD_eq_getElem?_getD, List.getElem?_eq_getElem (by omega)]
      simp only [hl, Nat.add_sub_cancel] at this
      exact this

/-! ### Numbers as logical values -/
def u32L (n : Nat) : LV := .v (.int .u32 n)
def i64L (n : Int) : LV := .v (.int .i64 n)
theorem u32E : EncOK u32L 1 false := ⟨fun _ => rfl, fun _ => rfl, fun _ => rfl⟩
theorem i64E : EncOK i64L 1 false := ⟨fun _ => rfl, fun _ => rfl, fun _ => rfl⟩
/-- limbs -/
def limL (l : List Nat) : LV := .list 1 (l.map u32L)
def magL (n : Nat) : LV := .list 1 ((dig n).map u32L)
theorem magL_pure (n : Nat) : (magL n).pure = true := by simp only [magL, LV.pure]; exact pures_map u32E _
def denN (q : Rat) : Nat := if q.den = 1 then 0 else q.den
@[irreducible] def ratL (q : Rat) : LV := .agg [.v (.bool (decide (q < 0))), magL q.num.natAbs, magL (denN q)]
theorem ratL_eq (q : Rat) : ratL q = .agg [.v (.bool (decide (q < 0))), magL q.num.natAbs, magL (denN q)] := by unfold ratL; rfl
theorem ratE : EncOK ratL 3 true := by
  refine ⟨fun q => ?_, fun q => ?_, fun q => ?_⟩
  · rw [ratL_eq]; rfl
  · rw [ratL_eq]; rfl
  · rw [ratL_eq]; simp [LV.pure, pures, magL_pure]
theorem ratL_neg (q : Rat) : (ratL q).at 0 1 false = some (.v (.bool (decide (q < 0)))) := by rw [ratL_eq]; rfl
theorem ratL_num (q : Rat) : (ratL q).at 1 1 false = some (magL q.num.natAbs) := by rw [ratL_eq]; rfl
theorem ratL_den (q : Rat) : (ratL q).at 2 1 false = some (magL (denN q)) := by rw [ratL_eq]; rfl
theorem ratL_all (q : Rat) : (ratL q).at 0 3 true = some (ratL q) := by
  have := at_self (ratL q) (ratE.pure q)
  rwa [ratE.csize, ratE.isAgg] at this
theorem ratL_zero : ratL 0 = .agg [.v (.bool false), .list 1 [], .list 1 []] := by rw [ratL_eq]; rfl
@[irreducible] def spL (s : Rat × Rat) : LV := .agg [ratL s.1, ratL s.2]
theorem spL_eq (s : Rat × Rat) : spL s = .agg [ratL s.1, ratL s.2] := by unfold spL; rfl
theorem spE : EncOK spL 6 true := by
  refine ⟨fun s => ?_, fun s => ?_, fun s => ?_⟩ <;> rw [spL_eq] <;> simp [LV.csize, csizes, LV.isAgg, LV.pure, pures, ratE.csize, ratE.pure]
theorem spL_all (s : Rat × Rat) : (spL s).at 0 6 true = some (spL s) := by
  have := at_self (spL s) (spE.pure s)
  rwa [spE.csize, spE.isAgg] at this
theorem spL_lo (s : Rat × Rat) : (spL s).at 0 3 true = some (ratL s.1) := by
  rw [spL_eq]; simp [LV.at, atFs, csizes, ratE.csize, ratL_all]
theorem spL_hi (s : Rat × Rat) : (spL s).at 3 3 true = some (ratL s.2) := by
  rw [spL_eq]; simp [LV.at, atFs, csizes, ratE.csize, ratL_all]
theorem ratL_kill (q : Rat) (b : Nat) : (ratL q).kill b = ratL q := LV.kill_pure b _ (ratE.pure q)
theorem kills_map {α : Type} {e : α → LV} {sz : Nat} {ag : Bool} (h : EncOK e sz ag) (b : Nat) (l : List α) : kills b (l.map e) = l.map e := kills_pure b _ (pures_map h l)
theorem spL_kill (q : Rat × Rat) (b : Nat) : (spL q).kill b = spL q := LV.kill_pure b _ (spE.pure q)
theorem ratL_ren (q : Rat) (f : Nat → Nat) : (ratL q).ren f = ratL q := LV.ren_pure f _ (ratE.pure q)
theorem magL_ren (n : Nat) (f : Nat → Nat) : (magL n).ren f = magL n := LV.ren_pure f _ (magL_pure n)

/-! ### Zero values -/
section
variable {Z : Nat → Prop} {μ : Nat → Option Nat} {w : World}
theorem repV0 {x : Value} (h : x.oneCell' = true) : Rep Z μ w (.v x) [x] := by simp only [Rep]; exact ⟨trivial, h⟩
theorem repNil0 (sz : Nat) : Rep Z μ w (.list sz []) [.slice none 0 0] := by simp only [Rep]; exact ⟨none, 0, 0, rfl, rfl, Nat.le_refl _, .inl trivial, rfl⟩
theorem repAgg0 {l : List LV} {cs : List Value} (h : RepFs Z μ w l cs) : Rep Z μ w (.agg l) cs := by simp only [Rep]; exact h
theorem repFs0 : RepFs Z μ w [] [] := by simp only [RepFs]
theorem repFs1 {x : LV} {xs : List LV} {c1 c2 : List Value} (h1 : c1.length = x.csize) (h2 : Rep Z μ w x c1) (h3 : RepFs Z μ w xs c2) : RepFs Z μ w (x :: xs) (c1 ++ c2) := by
  simp only [RepFs]; exact ⟨c1, c2, rfl, h1, h2, h3⟩
theorem repRat0 : Rep Z μ w (ratL 0) [.bool false, .slice none 0 0, .slice none 0 0] := by
  rw [ratL_zero]
  exact repAgg0 (repFs1 (c1 := [.bool false]) rfl (repV0 rfl) (repFs1 (c1 := [.slice none 0 0]) rfl (repNil0 1) (repFs1 (c1 := [.slice none 0 0]) rfl (repNil0 1) repFs0)))
end
end Go.Lg
namespace Go.Lg

/-- natural numbers as machine integers -/
abbrev nU64 (n : Nat) : LV := .v (.int .u64 ((n : Nat) : Int))
abbrev nU32 (n : Nat) : LV := .v (.int .u32 ((n : Nat) : Int))
abbrev nI64 (n : Nat) : LV := .v (.int .i64 ((n : Nat) : Int))
abbrev bL (b : Bool) : LV := .v (.bool b)
abbrev iL (n : Int) : LV := .v (.int .i64 n)

section
variable {a b : Nat}
theorem addU (h : a + b < 18446744073709551616) : binI .add .u64 (a : Nat) (b : Nat) = some (.int .u64 ((a + b : Nat) : Int)) := by
  simp only [binI]; rw [IntWalk.u64_in _ (by omega)]; simp
theorem mulU (h : a * b < 18446744073709551616) : binI .mul .u64 (a : Nat) (b : Nat) = some (.int .u64 ((a * b : Nat) : Int)) := by
  simp only [binI]
  have e : ((a : Int) * (b : Int)) = ((a * b : Nat) : Int) := by simp
  rw [e, IntWalk.u64_in _ (by omega)]
theorem subU (h : b ≤ a) (h1 : a < 18446744073709551616) : binI .sub .u64 (a : Nat) (b : Nat) = some (.int .u64 ((a - b : Nat) : Int)) := by
  simp only [binI]; rw [IntWalk.u64_in _ (by omega)]; congr 2; omega
/-- below 0 -/
theorem subUw (h : a < b) (h1 : b ≤ 18446744073709551616) : binI .sub .u64 (a : Nat) (b : Nat) = some (.int .u64 ((18446744073709551616 + a - b : Nat) : Int)) := by
  simp only [binI]; rw [IntKind.wrap_u64]; congr 2; omega
/-- below 0 or not -/
theorem subW (h : b ≤ 18446744073709551616) : binI .sub .u64 (a : Nat) (b : Nat) = some (.int .u64 (((18446744073709551616 + a - b) % 18446744073709551616 : Nat) : Int)) := by
  simp only [binI]; rw [IntKind.wrap_u64]; congr 2; omega
theorem quoU (h : 0 < b) (h1 : a < 18446744073709551616) : binI .quo .u64 (a : Nat) (b : Nat) = some (.int .u64 ((a / b : Nat) : Int)) := by
  have e : ((a : Int).tdiv (b : Int)) = ((a / b : Nat) : Int) := by simp
  have h2 : a / b ≤ a := Nat.div_le_self a b
  simp only [binI]; rw [if_neg (by omega), e, IntWalk.u64_in _ ⟨Int.natCast_nonneg _, by omega⟩]
theorem remU (h : 0 < b) : binI .rem .u64 (a : Nat) (b : Nat) = some (.int .u64 ((a % b : Nat) : Int)) := by
  simp only [binI]; rw [if_neg (by omega)]; congr 2
theorem shl32 (h : a * 4294967296 < 18446744073709551616) : shI .shl .u64 (a : Nat) 32 = some (.int .u64 ((a * 4294967296 : Nat) : Int)) := by
  have e : (2 : Int) ^ min (32 : Int).toNat IntKind.u64.bits = 4294967296 := by decide
  simp only [shI]
  rw [if_neg (by omega), e, IntWalk.u64_in _ (by omega)]; simp
theorem shr32 : shI .shr .u64 (a : Nat) 32 = some (.int .u64 ((a / 4294967296 : Nat) : Int)) := by
  have e : (2 : Int) ^ min (32 : Int).toNat IntKind.u64.bits = 4294967296 := by decide
  simp only [shI]
  rw [if_neg (by omega), e, Int.fdiv_eq_ediv_of_nonneg _ (by omega)]
  congr 2
theorem shr63 : shI .shr .u64 (a : Nat) 63 = some (.int .u64 ((a / 9223372036854775808 : Nat) : Int)) := by
  have e : (2 : Int) ^ min (63 : Int).toNat IntKind.u64.bits = 9223372036854775808 := by decide
  simp only [shI]
  rw [if_neg (by omega), e, Int.fdiv_eq_ediv_of_nonneg _ (by omega)]
  congr 2
theorem bv_nat (n w : Nat) : (BitVec.ofInt w (n : Int)) = BitVec.ofNat w n := by simp
theorem orU {x : Nat} (hb : b < 4294967296) (hx : x < 4294967296) : binI .or .u64 ((x * 4294967296 : Nat) : Int) (b : Nat) = some (.int .u64 ((x * 4294967296 + b : Nat) : Int)) := by
  have e : (BitVec.ofInt IntKind.u64.bits ((x * 4294967296 : Nat) : Int) ||| BitVec.ofInt IntKind.u64.bits (b : Int)).toNat = x * 4294967296 + b := by
    rw [bv_nat, bv_nat, BitVec.toNat_or, BitVec.toNat_ofNat, BitVec.toNat_ofNat]
    have e1 : x * 4294967296 % 2 ^ IntKind.u64.bits = x * 4294967296 := Nat.mod_eq_of_lt (by show _ < 18446744073709551616; omega)
    have e2 : b % 2 ^ IntKind.u64.bits = b := Nat.mod_eq_of_lt (by show _ < 18446744073709551616; omega)
    rw [e1, e2]
    have := Nat.shiftLeft_add_eq_or_of_lt (i := 32) (b := b) (by simpa using hb) x
    rw [Nat.shiftLeft_eq] at this
    exact this.symm
  simp only [binI, e]
  rw [IntWalk.u64_in _ (by omega)]
theorem wrap32 : IntKind.u32.wrap (a : Nat) = ((a % 4294967296 : Nat) : Int) := by rw [IntKind.wrap_u32]; omega
theorem wrap64 (h : a < 18446744073709551616) : IntKind.u64.wrap (a : Nat) = (a : Int) := IntWalk.u64_in _ (by omega)
theorem mulLt {x y : Nat} (hx : x < 4294967296) (hy : y < 4294967296) : x * y ≤ 18446744065119617025 := by
  have := Nat.mul_le_mul (Nat.le_sub_one_of_lt hx) (Nat.le_sub_one_of_lt hy)
  simpa using this
end

section
variable {P : Program} {H : Heap} {ρ : Operand → LV} {S D : TypeId} {x : Operand} {n : Nat} {k' : IntKind}
theorem OpP.lenLm {α : Type} {e : α → LV} {sz : Nat} {l : List α} {T : TypeId} {d : TypeId} {as : Array TypeId} (hx : ρ x = .list sz (l.map e)) (has : as = #[T]) (hT : P.underlying T = some (.slice d)) :
    OpP P H ρ (.call ⟨.builtin .len, #[x], as⟩) (nI64 l.length) := by
  have := OpP.lenL (H := H) hx has hT
  rwa [List.length_map] at this
/-- conversions to 32 and 64 bits -/
theorem OpP.cv32 {d : TypeDesc} (hS : P.underlying S = some d) (hD : P.underlying D = some (.int .u32)) (hx : ρ x = .v (.int k' (n : Nat))) : OpP P H ρ (.convert S D x) (nU32 (n % 4294967296)) := by
  have := OpP.conv (H := H) hS hD hx
  rwa [wrap32] at this
theorem OpP.cv64 {d : TypeDesc} (hS : P.underlying S = some d) (hD : P.underlying D = some (.int .u64)) (hx : ρ x = .v (.int k' (n : Nat))) (h : n < 18446744073709551616) : OpP P H ρ (.convert S D x) (nU64 n) := by
  have := OpP.conv (H := H) hS hD hx
  rwa [wrap64 h] at this
theorem OpP.cvI {d : TypeDesc} {m : Int} (hS : P.underlying S = some d) (hD : P.underlying D = some (.int .i64)) (hx : ρ x = .v (.int k' m)) (h1 : -9223372036854775808 ≤ m) (h2 : m ≤ 9223372036854775807) : OpP P H ρ (.convert S D x) (iL m) := by
  have := OpP.conv (H := H) hS hD hx
  rwa [IntWalk.i64_in _ ⟨h1, h2⟩] at this
end

section
variable {P : Program} {Q : LEx → St → Prop} {L L0 : St} {K : St → Prop} {dr : Bool} {ops : Array Oper} {l : List Oper}
theorem opsL_split {d : Nat} {b : Bool} (h : L.slot d = .v (.bool b)) (ht : b = true → opsL P dr ops l L K) (hf : b = false → opsL P dr ops l L K) : opsL P dr ops l L K := by
  cases b with
  | true => exact ht rfl
  | false => exact hf rfl
theorem wl_condX {c : Operand} {x y : Code} {b : Bool} (hc : L.ev c = .v (.bool b)) (hb : b = true) (h : wpL P x Q L) : wpL P (.cond c x y) Q L := wl_cond hc (fun _ => h) (fun e => by rw [hb] at e; cases e)
theorem wl_condY {c : Operand} {x y : Code} {b : Bool} (hc : L.ev c = .v (.bool b)) (hb : b = false) (h : wpL P y Q L) : wpL P (.cond c x y) Q L := wl_cond hc (fun e => by rw [hb] at e; cases e) (fun _ => h)
end

/-- a nil slice, told as an empty block of the call's own -/
theorem Weak.own {L : St} {t : Nat} (d sz : Nat) (h : L.slot t = .v (.slice none 0 0)) (hd : L.heap d = none) : Weak L ((L.setB d (some ⟨sz, [], true⟩)).put (some t) (.ref d sz 0 0)) := by
  rintro n W X Z0 a w ⟨hdf, hsz, μ, Z, hc, hr⟩
  refine ⟨hdf, hsz, μ, Z, ?_, fun s => ?_⟩
  · rw [put_heap]
    refine hc.reheap fun c id hcd => ?_
    have : c ≠ d := by rintro rfl; rw [mu_none hc hd] at hcd; cases hcd
    simp [St.setB, this]
  · rw [put_slot]
    split
    · rename_i hst
      subst hst
      have e := hr s
      rw [h] at e
      rw [e.v_eq]
      exact ⟨by simp [LV.isAgg], fun _ => by simp [Rep]⟩
    · exact hr s
/-- a slot that is not looked at any more -/
theorem Weak.any (L : St) (t : Nat) : Weak L (L.put (some t) .any) := by
  rintro n W X Z0 a w ⟨hdf, hsz, μ, Z, hc, hr⟩
  refine ⟨hdf, hsz, μ, Z, by rw [put_heap]; exact hc, fun s => ?_⟩
  rw [put_slot]
  split
  · trivial
  · exact hr s
/-- an empty list of either kind is the nil slice's or an empty one's -/
theorem Weak.nilL {L : St} {t : Nat} (sz : Nat) (h : L.slot t = .v (.slice none 0 0)) : Weak L (L.put (some t) (.list sz [])) := by
  rintro n W X Z0 a w ⟨hdf, hsz, μ, Z, hc, hr⟩
  refine ⟨hdf, hsz, μ, Z, by rw [put_heap]; exact hc, fun s => ?_⟩
  rw [put_slot]
  split
  · rename_i hst
    subst hst
    have e := hr s
    rw [h] at e
    rw [e.v_eq]
    exact ⟨by simp [LV.isAgg], fun _ => by simp only [Rep]; exact ⟨none, 0, 0, rfl, rfl, Nat.le_refl _, .inl trivial, rfl⟩⟩
  · exact hr s

/-! ### Heaps as lists -/
def hp : List (Nat × Blk) → Heap
  | [], _ => none
  | (b, x) :: l, c => bif Nat.beq c b then some x else hp l c
def ins (b : Nat) (x : Blk) : List (Nat × Blk) → List (Nat × Blk)
  | [] => [(b, x)]
  | (c, y) :: l => bif Nat.beq c b then (b, x) :: l else (c, y) :: ins b x l
def killH (b : Nat) : List (Nat × Blk) → List (Nat × Blk)
  | [] => []
  | (c, y) :: l => bif Nat.beq c b then killH b l else (c, ⟨y.sz, kills b y.vals, y.mt⟩) :: killH b l
def frzH (bs : List Nat) : List (Nat × Blk) → List (Nat × Blk)
  | [] => []
  | (c, y) :: l => (c, ⟨y.sz, y.vals, y.mt && !bs.contains c⟩) :: frzH bs l
theorem beq_eq {a b : Nat} (h : Nat.beq a b = true) : a = b := Nat.eq_of_beq_eq_true h
theorem beq_self (a : Nat) : Nat.beq a a = true := by rw [Nat.beq_eq]
theorem beq_ne {a b : Nat} (h : a ≠ b) : Nat.beq a b = false := by rw [← Bool.not_eq_true, Nat.beq_eq]; exact h
theorem hp_ins (b : Nat) (x : Blk) : ∀ (l : List (Nat × Blk)) (c : Nat), hp (ins b x l) c = if c = b then some x else hp l c
  | [], c => by
      simp only [ins, hp]
      by_cases h : c = b
      · subst h; rw [beq_self]; simp
      · rw [beq_ne h, if_neg h]; rfl
  | (d, y) :: l, c => by
      simp only [ins]
      by_cases hdb : d = b
      · subst hdb
        rw [beq_self]
        simp only [cond_true, hp]
        by_cases h : c = d
        · subst h; rw [beq_self]; simp
        · rw [beq_ne h, if_neg h]; rfl
      · rw [beq_ne hdb]
        simp only [cond_false, hp, hp_ins b x l c]
        by_cases h : c = d
        · subst h; rw [beq_self]; simp [hdb]
        · rw [beq_ne h]; rfl
theorem hp_kill (b : Nat) : ∀ (l : List (Nat × Blk)) (c : Nat), hp (killH b l) c = if c = b then none else (hp l c).map fun blk => ⟨blk.sz, kills b blk.vals, blk.mt⟩
  | [], c => by simp [killH, hp]
  | (d, y) :: l, c => by
      simp only [killH]
      by_cases hdb : d = b
      · subst hdb
        rw [beq_self]
        simp only [cond_true, hp_kill d l c, hp]
        by_cases h : c = d
        · rw [if_pos h, if_pos h]
        · rw [if_neg h, if_neg h, beq_ne h]; rfl
      · rw [beq_ne hdb]
        simp only [cond_false, hp, hp_kill b l c]
        by_cases h : c = d
        · subst h; rw [beq_self]; simp [hdb]
        · rw [beq_ne h]; rfl
theorem hp_frz (bs : List Nat) : ∀ (l : List (Nat × Blk)) (c : Nat), hp (frzH bs l) c = (hp l c).map fun blk => ⟨blk.sz, blk.vals, blk.mt && !bs.contains c⟩
  | [], c => rfl
  | (d, y) :: l, c => by
      simp only [frzH, hp, hp_frz bs l c]
      by_cases h : c = d
      · subst h; rw [beq_self]; rfl
      · rw [beq_ne h]; rfl
theorem b1 (s : Nat → LV) (l : List (Nat × Blk)) (b : Nat) (x : Blk) : (St.mk s (hp l)).setB b (some x) = St.mk s (hp (ins b x l)) := by
  simp only [St.setB, St.mk.injEq, true_and]; funext c; rw [hp_ins]
theorem b2 (L : St) (t : Nat) (r : LV) (b : Nat) (x : Option Blk) : (L.put (some t) r).setB b x = (L.setB b x).put (some t) r := rfl
theorem b3 (s : Nat → LV) (l : List (Nat × Blk)) (b : Nat) : (St.mk s (hp l)).kill b = St.mk (fun t => (s t).kill b) (hp (killH b l)) := by
  simp only [St.kill, St.mk.injEq, true_and]; funext c; rw [hp_kill]
theorem b4 (L : St) (t : Nat) (r : LV) (b : Nat) : (L.put (some t) r).kill b = (L.kill b).put (some t) (r.kill b) := by
  simp only [St.kill, St.put, St.mk.injEq, and_true]
  funext s
  cases Nat.beq s t <;> rfl
theorem b5 (s : Nat → LV) (l : List (Nat × Blk)) (bs : List Nat) : (St.mk s (hp l)).frz bs = St.mk s (hp (frzH bs l)) := by
  simp only [St.frz, St.mk.injEq, true_and]; funext c; rw [hp_frz]
theorem b6 (L : St) (t : Nat) (r : LV) (bs : List Nat) : (L.put (some t) r).frz bs = (L.frz bs).put (some t) r := rfl
theorem i1 (b : Nat) (x : Blk) : ins b x [] = [(b, x)] := rfl
theorem i2 (b c : Nat) (x y : Blk) (l : List (Nat × Blk)) (h : (c == b) = true) : ins b x ((c, y) :: l) = (b, x) :: l := by
  simp only [beq_iff_eq] at h; simp only [ins, h, beq_self, cond_true]
theorem i3 (b c : Nat) (x y : Blk) (l : List (Nat × Blk)) (h : (c == b) = false) : ins b x ((c, y) :: l) = (c, y) :: ins b x l := by
  have h' : c ≠ b := by simpa using h
  simp only [ins, beq_ne h', cond_false]
theorem i4 (b : Nat) : killH b [] = [] := rfl
theorem i5 (b c : Nat) (y : Blk) (l : List (Nat × Blk)) (h : (c == b) = true) : killH b ((c, y) :: l) = killH b l := by
  simp only [beq_iff_eq] at h; simp only [killH, h, beq_self, cond_true]
theorem i6 (b c : Nat) (y : Blk) (l : List (Nat × Blk)) (h : (c == b) = false) : killH b ((c, y) :: l) = (c, ⟨y.sz, kills b y.vals, y.mt⟩) :: killH b l := by
  have h' : c ≠ b := by simpa using h
  simp only [killH, beq_ne h', cond_false]
theorem mk_id' {L : St} {l : List (Nat × Blk)} (h : L.heap = hp l) : St.mk L.slot (hp l) = L := by rw [← h]
theorem hp_nil : (fun _ => none : Heap) = hp [] := rfl

/-! ### Contracts of functions that hand back values only -/
def CallP (P : Program) (f : FuncId) (args : List LV) (r : LV) : Prop := CallOK P f args r [] ∧ ∀ g, r.ren g = r
section
variable {P : Program} {dr : Bool} {ops : Array Oper} {rest : List Oper} {L : St} {K : St → Prop} {dst : Option Tmp} {ty : TypeId} {pos : String} {af : Array Edge} {g : Option (Nat × Bool)}
theorem st_callP {f : FuncId} {xs : Array Operand} {as : Array TypeId} {args : List LV} {r : LV} (hg : GuardIs ops L ⟨dst, .call ⟨.value (.func f), xs, as⟩, ty, pos, af, g⟩ true)
    (ha : ImmL L.heap (xs.toList.map L.ev) args) (hk : CallP P f args r) (k : opsL P dr ops rest (L.put dst r) K) :
    opsL P dr ops (⟨dst, .call ⟨.value (.func f), xs, as⟩, ty, pos, af, g⟩ :: rest) L K := st_call0 hg ha hk.1 (hk.2 _) k
theorem st_callPf {f : FuncId} {xs : Array Operand} {as : Array TypeId} {args : List LV} {r : LV} (bs : List Nat) (hg : GuardIs ops L ⟨dst, .call ⟨.value (.func f), xs, as⟩, ty, pos, af, g⟩ true) (h0 : bs.contains 0 = false)
    (ha : ImmL (L.frz bs).heap (xs.toList.map L.ev) args) (hk : CallP P f args r) (k : opsL P dr ops rest ((L.frz bs).put dst r) K) :
    opsL P dr ops (⟨dst, .call ⟨.value (.func f), xs, as⟩, ty, pos, af, g⟩ :: rest) L K := st_call bs hg h0 ha hk.1 (hk.2 _) k
theorem callP_of {f : FuncId} {fn : Func} {c : Code} {args : List LV} {r : LV} (hfol : P.follows .mixedOrders = true) (hf : P.funcs[f]? = some fn) (hb : fn.body = some c)
    (hn : (fn.name == "runtime.NumGoroutine") = false) (hd : dstsOk fn.ntmps c = true) (hlen : args.length ≤ fn.ntmps) (ht : ∀ g, r.ren g = r)
    (h : wpL P c (fun e L => match e with | .exit _ => False | _ => RetL P fn.results.toList L r []) (St.mk (fun t => args.getD t .any) (hp []))) : CallP P f args r := ⟨callOK_of hfol hf hb hn hd hlen h, ht⟩
end
theorem callO_of {P : Program} {f : FuncId} {fn : Func} {c : Code} {args : List LV} {r : LV} {bs : List Blk} (hfol : P.follows .mixedOrders = true) (hf : P.funcs[f]? = some fn) (hb : fn.body = some c)
    (hn : (fn.name == "runtime.NumGoroutine") = false) (hd : dstsOk fn.ntmps c = true) (hlen : args.length ≤ fn.ntmps)
    (h : wpL P c (fun e L => match e with | .exit _ => False | _ => RetL P fn.results.toList L r bs) (St.mk (fun t => args.getD t .any) (hp []))) : CallOK P f args r bs := callOK_of hfol hf hb hn hd hlen h
theorem callM_of {P : Program} {f : FuncId} {fn : Func} {c : Code} {args : List LV} {r : LV} {blk blk' : Blk} (hfol : P.follows .mixedOrders = true) (hf : P.funcs[f]? = some fn) (hb : fn.body = some c)
    (hn : (fn.name == "runtime.NumGoroutine") = false) (hd : dstsOk fn.ntmps c = true) (hlen : args.length ≤ fn.ntmps) (hmt : blk.mt = true)
    (h : wpL P c (fun e L => match e with | .exit _ => False | _ => RetM P fn.results.toList L r blk') (St.mk (fun t => args.getD t .any) (hp [(0, blk)]))) : CallOKM P f blk args r blk' := by
  refine callOKM_of hfol hf hb hn hd hlen hmt ?_
  have : StM args blk = St.mk (fun t => args.getD t .any) (hp [(0, blk)]) := by
    simp only [StM, St.mk.injEq, true_and]
    funext c
    simp only [hp]
    by_cases hc : c = 0
    · subst hc; rfl
    · rw [beq_ne hc, if_neg hc]; rfl
  rw [this]; exact h
theorem tame {x : LV} (h : x.pure = true) : ∀ g, x.ren g = x := fun g => LV.ren_pure g x h
theorem tame2 {x y : LV} (h : x.pure = true) (h' : y.pure = true) : ∀ g, (LV.tup [x, y]).ren g = .tup [x, y] := fun g => by
  simp only [LV.ren, rens, LV.ren_pure g x h, LV.ren_pure g y h']
theorem tame3 {x y z : LV} (h : x.pure = true) (h' : y.pure = true) (h'' : z.pure = true) : ∀ g, (LV.tup [x, y, z]).ren g = .tup [x, y, z] := fun g => by
  simp only [LV.ren, rens, LV.ren_pure g x h, LV.ren_pure g y h', LV.ren_pure g z h'']
theorem limL_pure (l : List Nat) : (limL l).pure = true := pure_lst u32E 1 l
theorem t1 (n : Nat) : ((n : Nat) : Int).toNat = n := rfl
theorem t2 (k : IntKind) (n : Nat) : u32L n = .v (.int .u32 (n : Nat)) := rfl

theorem imm_refT {L : St} {α : Type} {e : α → LV} {ag : Bool} {bs : List Nat} {b sz len : Nat} {l : List α} {m : Bool} (he : EncOK e sz ag) (hb : L.heap b = some ⟨sz, l.map e, m⟩) (hbs : bs.contains b = true) (hl : len ≤ l.length) :
    Imm (L.frz bs).heap (.ref b sz 0 len) (.list sz ((l.take len).map e)) := by
  have := imm_ref (L := L) (bs := bs) (off := 0) (len := len) hb hbs (pures_map he l) (by simp [hl])
  rwa [List.drop_zero, ← List.map_take] at this
/-! results of a function that writes a block of its caller's -/
theorem retM1 {P : Program} {L : St} {t : Nat} {x y : LV} {blk : Blk} (h : L.slot t = x) (hi : ArgM L.heap 0 x y) (hb : L.heap 0 = some blk) (hm : blk.mt = true) (hp : pures blk.vals = true) : RetM P [.tmp t] L y blk :=
  ⟨[x], [y], L.heap, .cons h .nil, Heap.le_refl _, .cons hi .nil, hb, hm, hp, rfl⟩
theorem retM0 {P : Program} {L : St} {blk : Blk} (hb : L.heap 0 = some blk) (hm : blk.mt = true) (hp : pures blk.vals = true) : RetM P [] L (.tup []) blk :=
  ⟨[], [], L.heap, .nil, Heap.le_refl _, .nil, hb, hm, hp, rfl⟩
/-! what a block's name becomes -/
theorem r1 (f : Nat → Nat) (b sz off len : Nat) : (LV.ref b sz off len).ren f = .ref (f b) sz off len := rfl
theorem r2 (f : Nat → Nat) (b sz i o : Nat) : (LV.eptr b sz i o).ren f = .eptr (f b) sz i o := rfl
theorem r3 (f : Nat → Nat) (x : Value) : (LV.v x).ren f = .v x := rfl
theorem r4 (d k : Nat) : callName d k = 1000000 + d * 16 + k := rfl

section
variable {P : Program} {H : Heap} {ρ : Operand → LV} {T E : TypeId} {x z : Operand} {b sz off len h : Nat} {k' : IntKind} {ag : Bool}
theorem OpP.sliceRh (hx : ρ x = .ref b sz off len) (hT : P.underlying T = some (.slice E)) (hE : TyIs P E sz ag) (hhi : ρ z = .v (.int k' (h : Nat))) (h2 : h ≤ len) (h0 : 0 < len) :
    OpP P H ρ (.slice T x none (some z) none) (.ref b sz off h) := by
  have := OpP.sliceR (P := P) (H := H) (ρ := ρ) (la := none) (ha := some z) (a := 0) (h := h) hx hT hE (fun w hw => by cases hw) (fun _ => rfl) (fun w hw => by cases hw; exact ⟨_, hhi⟩) (fun h => by cases h) (by omega) h2 h0
  simpa using this
end
end Go.Lg
namespace Go.Lg

abbrev B32 : Nat := 4294967296

theorem dflt : (default : Nat) = 0 := rfl
theorem val_take_succ' (l : List Nat) (k : Nat) : val (l.take (k + 1)) = val (l.take k) + 4294967296 ^ k * l.getD k 0 := by
  by_cases h : k < l.length
  · exact val_take_succ h
  · have h1 : l.take (k + 1) = l := List.take_of_length_le (by omega)
    have h2 : l.take k = l := List.take_of_length_le (by omega)
    have h3 : l.getD k 0 = 0 := by rw [List.getD_eq_getElem?_getD, List.getElem?_eq_none (by omega)]; rfl
    rw [h1, h2, h3]; simp
theorem val_take_all (l : List Nat) {k : Nat} (h : l.length ≤ k) : val (l.take k) = val l := by rw [List.take_of_length_le h]
theorem take_set_ge (l : List Nat) (k j x : Nat) (h : k ≤ j) : (l.set j x).take k = l.take k := by rw [List.take_set_of_le h]
theorem val_set_take (l : List Nat) (k x : Nat) (h : k < l.length) : val ((l.set k x).take (k + 1)) = val (l.take k) + 4294967296 ^ k * x := by
  rw [val_take_succ', take_set_ge _ _ _ _ (Nat.le_refl k), List.getD_eq_getElem?_getD, List.getElem?_set_self h]; rfl
theorem lim_set {l : List Nat} (h : Lim l) (k x : Nat) (hx : x < 4294967296) : Lim (l.set k x) := fun y hy => by
  rcases List.mem_or_eq_of_mem_set hy with hy | rfl
  · exact h y hy
  · exact hx
theorem getD_lim {l : List Nat} (h : Lim l) (k : Nat) : l.getD k 0 < 4294967296 := lim_getD h k
theorem getD_set_self (l : List Nat) (k x : Nat) (h : k < l.length) : (l.set k x).getD k 0 = x := by
  rw [List.getD_eq_getElem?_getD, List.getElem?_set_self h]; rfl
theorem getD_set_ne (l : List Nat) (k j x : Nat) (h : k ≠ j) : (l.set k x).getD j 0 = l.getD j 0 := by
  rw [List.getD_eq_getElem?_getD, List.getD_eq_getElem?_getD, List.getElem?_set_ne h]
theorem getD_ge (l : List Nat) (k : Nat) (h : l.length ≤ k) : l.getD k 0 = 0 := by
  rw [List.getD_eq_getElem?_getD, List.getElem?_eq_none h]; rfl
/-- one limb with its carry -/
theorem carry_step (p s : Nat) : p * (s % 4294967296) + p * 4294967296 * (s / 4294967296) = p * s := by
  rw [Nat.mul_assoc, ← Nat.mul_add, Nat.mod_add_div]
theorem getD_dig_lt (n k : Nat) : (dig n).getD k 0 < 4294967296 := getD_lim (lim_dig n) k
theorem len_dig_mono {m n : Nat} (h : m ≤ n) : (dig m).length ≤ (dig n).length := by
  apply dig_length_le
  have := val_lt (lim_dig n); rw [val_dig] at this; omega
theorem val_lt_len {l : List Nat} (h : Lim l) {k : Nat} (hk : l.length ≤ k) : val l < 4294967296 ^ k :=
  Nat.lt_of_lt_of_le (val_lt h) (Nat.pow_le_pow_right (by omega) hk)
theorem dig_one : dig 1 = [1] := rfl
theorem dig_small {n : Nat} (h0 : 0 < n) (h : n < 4294967296) : dig n = [n] := by
  rw [dig_pos h0, Nat.mod_eq_of_lt h, Nat.div_eq_of_lt h]; rfl
theorem dig_len_le1 {n : Nat} : (dig n).length ≤ 1 ↔ n < 4294967296 := dig_length_lt_iff
theorem dig_len_le2 {n : Nat} : (dig n).length ≤ 2 ↔ n < 18446744073709551616 := by
  rw [dig_length_lt_iff]
theorem val_two (x y : Nat) : val [x, y] = x + 4294967296 * y := by simp [val]
theorem can_getLast {l : List Nat} (h : Can l) (hne : 0 < l.length) : l.getD (l.length - 1) 0 ≠ 0 := by
  have h1 : l ≠ [] := by rintro rfl; simp at hne
  have := h h1
  rw [List.getLast_eq_getElem] at this
  rw [List.getD_eq_getElem?_getD, List.getElem?_eq_getElem (by omega)]
  exact this
end Go.Lg
namespace Go.Lg

theorem val_drop {l : List Nat} {k : Nat} (h : k < l.length) : val (l.drop k) = l.getD k 0 + 4294967296 * val (l.drop (k + 1)) := by
  rw [List.drop_eq_getElem_cons h, val, List.getD_eq_getElem?_getD, List.getElem?_eq_getElem h]; rfl
theorem drop_set_self {l : List Nat} {k x : Nat} (h : k < l.length) : val ((l.set k x).drop k) = x + 4294967296 * val (l.drop (k + 1)) := by
  rw [val_drop (by simpa using h), getD_set_self _ _ _ h, List.drop_set_of_lt (by omega)]
theorem val_drop_lt {l : List Nat} (h : Lim l) {k j : Nat} (hk : l.length ≤ k + j) : val (l.drop k) < 4294967296 ^ j :=
  val_lt_len (lim_drop h k) (by simp; omega)
theorem val_set {l : List Nat} {k x : Nat} (h : k < l.length) : val (l.set k x) + 4294967296 ^ k * l.getD k 0 = val l + 4294967296 ^ k * x := by
  induction l generalizing k with
  | nil => simp at h
  | cons a l ih =>
    cases k with
    | zero => simp [val]; omega
    | succ k =>
      have := ih (k := k) (by simpa using h)
      simp only [List.set_cons_succ, val, List.getD_cons_succ, Nat.pow_succ]
      have e1 : 4294967296 ^ k * 4294967296 * l.getD k 0 = 4294967296 * (4294967296 ^ k * l.getD k 0) := by rw [Nat.mul_comm (4294967296 ^ k), Nat.mul_assoc]
      have e2 : 4294967296 ^ k * 4294967296 * x = 4294967296 * (4294967296 ^ k * x) := by rw [Nat.mul_comm (4294967296 ^ k), Nat.mul_assoc]
      rw [e1, e2]; omega
theorem val_split (l : List Nat) (k : Nat) (h : k ≤ l.length) : val l = val (l.take k) + 4294967296 ^ k * val (l.drop k) := by
  have := val_append (l.take k) (l.drop k)
  rwa [List.take_append_drop, List.length_take, Nat.min_eq_left h] at this

/-! ### Comparing -/
def cmpN (m n : Nat) : Int := if m < n then -1 else if n < m then 1 else 0
theorem cmpN_lt {m n : Nat} (h : m < n) : cmpN m n = -1 := by simp [cmpN, h]
theorem cmpN_gt {m n : Nat} (h : n < m) : cmpN m n = 1 := by simp [cmpN, h]; omega
theorem cmpN_eq {m n : Nat} (h : m = n) : cmpN m n = 0 := by simp [cmpN, h]
theorem lt_of_len {m n : Nat} (h : (dig m).length < (dig n).length) : m < n := by
  have h1 := val_lt (lim_dig m); rw [val_dig] at h1
  apply Classical.byContradiction
  intro h2
  have := len_dig_mono (Nat.le_of_not_lt h2)
  omega
theorem val_lt_of_limb {a b : List Nat} (ha : Lim a) {k : Nat} (hk : k < a.length) (hk' : k < b.length) (hd : a.drop (k + 1) = b.drop (k + 1)) (h : a.getD k 0 < b.getD k 0) : val a < val b := by
  rw [val_split a k (by omega), val_split b k (by omega), val_drop hk, val_drop hk', hd]
  have h1 : val (a.take k) < 4294967296 ^ k := val_lt_len (lim_take ha k) (by simp; omega)
  have h2 : 4294967296 ^ k * (a.getD k 0 + 1) ≤ 4294967296 ^ k * b.getD k 0 := Nat.mul_le_mul_left _ h
  rw [Nat.mul_add, Nat.mul_add]
  rw [Nat.mul_add] at h2
  omega
theorem drop_eq_of {a b : List Nat} {k : Nat} (hk : k < a.length) (hk' : k < b.length) (hd : a.drop (k + 1) = b.drop (k + 1)) (h : a.getD k 0 = b.getD k 0) : a.drop k = b.drop k := by
  rw [List.drop_eq_getElem_cons hk, List.drop_eq_getElem_cons hk', hd]
  rw [List.getD_eq_getElem?_getD, List.getElem?_eq_getElem hk, List.getD_eq_getElem?_getD, List.getElem?_eq_getElem hk'] at h
  simp only [Option.getD_some] at h
  rw [h]
theorem take_eq_of {a b : List Nat} {k : Nat} (hk : k < a.length) (hk' : k < b.length) (hd : a.take k = b.take k) (h : a.getD k 0 = b.getD k 0) : a.take (k + 1) = b.take (k + 1) := by
  rw [List.take_succ_eq_append_getElem hk, List.take_succ_eq_append_getElem hk', hd]
  rw [List.getD_eq_getElem?_getD, List.getElem?_eq_getElem hk, List.getD_eq_getElem?_getD, List.getElem?_eq_getElem hk'] at h
  simp only [Option.getD_some] at h
  rw [h]

/-! ### Sums -/
theorem add_inv {k c : Nat} {a b o : List Nat} (hol : k < o.length) (hv : val (o.take k) + 4294967296 ^ k * c = val (a.take k) + val (b.take k)) {s : Nat} (hs : s = c + a.getD k 0 + b.getD k 0) :
    val ((o.set k (s % 4294967296)).take (k + 1)) + 4294967296 ^ (k + 1) * (s / 4294967296) = val (a.take (k + 1)) + val (b.take (k + 1)) := by
  rw [val_set_take _ _ _ hol, val_take_succ' a, val_take_succ' b, Nat.pow_succ]
  have h1 := carry_step (4294967296 ^ k) s
  have h2 : 4294967296 ^ k * s = 4294967296 ^ k * c + 4294967296 ^ k * a.getD k 0 + 4294967296 ^ k * b.getD k 0 := by rw [hs, Nat.mul_add, Nat.mul_add]
  omega
theorem add_end {c : Nat} {a b o : List Nat} (hba : b.length ≤ a.length) (hol : o.length = a.length + 1) (hlo : Lim o) (hc : c < 4294967296) (hv : val (o.take a.length) + 4294967296 ^ a.length * c = val (a.take a.length) + val (b.take a.length)) :
    trimL (o.set a.length c) = dig (val a + val b) := by
  rw [trimL_dig (lim_set hlo _ _ hc)]
  congr 1
  have h1 := val_set_take o a.length c (by omega)
  rw [List.take_of_length_le (by simp; omega)] at h1
  rw [val_take_all a (Nat.le_refl _), val_take_all b hba] at hv
  omega

/-! ### Differences -/
theorem sub_inv0 {k br : Nat} {a b o : List Nat} (hol : k < o.length) (hv : val (o.take k) + val (b.take k) = val (a.take k) + 4294967296 ^ k * br) {y : Nat} (hy : y = br + b.getD k 0) (h : y ≤ a.getD k 0) :
    val ((o.set k (a.getD k 0 - y)).take (k + 1)) + val (b.take (k + 1)) = val (a.take (k + 1)) + 4294967296 ^ (k + 1) * 0 := by
  rw [val_set_take _ _ _ hol, val_take_succ' a, val_take_succ' b]
  have h2 : 4294967296 ^ k * a.getD k 0 = 4294967296 ^ k * (a.getD k 0 - y) + 4294967296 ^ k * br + 4294967296 ^ k * b.getD k 0 := by
    rw [← Nat.mul_add, ← Nat.mul_add]; congr 1; omega
  omega
theorem sub_inv1 {k br : Nat} {a b o : List Nat} (hol : k < o.length) (hv : val (o.take k) + val (b.take k) = val (a.take k) + 4294967296 ^ k * br) {y : Nat} (hy : y = br + b.getD k 0) (h : a.getD k 0 < y) (hy2 : y ≤ 4294967296) :
    val ((o.set k (4294967296 + a.getD k 0 - y)).take (k + 1)) + val (b.take (k + 1)) = val (a.take (k + 1)) + 4294967296 ^ (k + 1) * 1 := by
  rw [val_set_take _ _ _ hol, val_take_succ' a, val_take_succ' b, Nat.pow_succ]
  have h2 : 4294967296 ^ k * 4294967296 + 4294967296 ^ k * a.getD k 0 = 4294967296 ^ k * (4294967296 + a.getD k 0 - y) + 4294967296 ^ k * br + 4294967296 ^ k * b.getD k 0 := by
    rw [← Nat.mul_add, ← Nat.mul_add, ← Nat.mul_add]; congr 1; omega
  omega
theorem sub_end {br : Nat} {a b o : List Nat} (hla : Lim a) (hlo : Lim o) (hol : o.length = a.length) (hbl : b.length ≤ a.length) (hle : val b ≤ val a)
    (hv : val (o.take a.length) + val (b.take a.length) = val (a.take a.length) + 4294967296 ^ a.length * br) : trimL o = dig (val a - val b) := by
  rw [trimL_dig hlo]
  congr 1
  rw [val_take_all a (Nat.le_refl _), val_take_all b hbl, val_take_all o (by omega)] at hv
  have h1 := val_lt hlo
  rw [hol] at h1
  cases br with
  | zero => omega
  | succ n =>
    rw [Nat.mul_succ] at hv
    omega

/-! ### Products -/
theorem mul_inv {i j c x : Nat} {b o : List Nat} {v0 : Nat} (hol : i + j < o.length) (hv : val o + 4294967296 ^ (i + j) * c = v0 + 4294967296 ^ i * (x * val (b.take j))) {s : Nat}
    (hs : s = c + (x * b.getD j 0 + o.getD (i + j) 0)) :
    val (o.set (i + j) (s % 4294967296)) + 4294967296 ^ (i + (j + 1)) * (s / 4294967296) = v0 + 4294967296 ^ i * (x * val (b.take (j + 1))) := by
  have h1 := val_set (x := s % 4294967296) hol
  have h2 := carry_step (4294967296 ^ (i + j)) s
  have h3 : 4294967296 ^ i * (x * val (b.take (j + 1))) = 4294967296 ^ i * (x * val (b.take j)) + 4294967296 ^ (i + j) * (x * b.getD j 0) := by
    rw [val_take_succ', Nat.mul_add, Nat.mul_add, Nat.pow_add]
    congr 1
    rw [Nat.mul_left_comm x, Nat.mul_assoc]
  have h4 : 4294967296 ^ (i + j) * s = 4294967296 ^ (i + j) * c + 4294967296 ^ (i + j) * (x * b.getD j 0) + 4294967296 ^ (i + j) * o.getD (i + j) 0 := by
    rw [hs, Nat.mul_add, Nat.mul_add]; omega
  have h5 : 4294967296 ^ (i + (j + 1)) = 4294967296 ^ (i + j) * 4294967296 := by rw [← Nat.add_assoc, Nat.pow_succ]
  rw [h3, h5]
  omega
theorem mul_row {i c x : Nat} {a b o : List Nat} {v0 : Nat} (_hi : i < a.length) (hol : i + b.length < o.length) (h0 : o.getD (i + b.length) 0 = 0) (hx : x = a.getD i 0) (hv0 : v0 = val (a.take i) * val b)
    (hv : val o + 4294967296 ^ (i + b.length) * c = v0 + 4294967296 ^ i * (x * val (b.take b.length))) :
    val (o.set (i + b.length) c) = val (a.take (i + 1)) * val b := by
  have h1 := val_set (x := c) hol
  rw [List.take_length] at hv
  have h2 : val (a.take (i + 1)) * val b = v0 + 4294967296 ^ i * (x * val b) := by
    rw [val_take_succ', Nat.add_mul, hv0, hx, Nat.mul_assoc]
  rw [h2]
  rw [h0] at h1
  omega

/-! ### Division by a limb -/
theorem small_inv {k d r : Nat} {a q : List Nat} (hk : k < a.length) (hq : q.length = a.length) (hv : val (q.drop (k + 1)) * d + r = val (a.drop (k + 1))) {s : Nat} (hs : s = r * 4294967296 + a.getD k 0) :
    val ((q.set k (s / d)).drop k) * d + s % d = val (a.drop k) := by
  rw [drop_set_self (by omega), val_drop hk, ← hv, Nat.add_mul]
  have := Nat.div_add_mod s d
  rw [Nat.mul_comm (s / d)]
  rw [Nat.mul_add, hs] at *
  have e : 4294967296 * val (q.drop (k + 1)) * d = 4294967296 * (val (q.drop (k + 1)) * d) := by rw [Nat.mul_assoc]
  rw [e]
  omega
theorem small_lt {d r x : Nat} (hr : r < d) (hx : x < 4294967296) : (r * 4294967296 + x) / d < 4294967296 := by
  rw [Nat.div_lt_iff_lt_mul (by omega)]
  have : (r + 1) * 4294967296 ≤ d * 4294967296 := Nat.mul_le_mul_right _ hr
  rw [Nat.mul_comm 4294967296]; omega
theorem small_end {d r : Nat} {a q : List Nat} (hd : 0 < d) (hr : r < d) (hq : Lim q) (hv : val (q.drop 0) * d + r = val (a.drop 0)) : trimL q = dig (val a / d) ∧ r = val a % d := by
  rw [List.drop_zero, List.drop_zero] at hv
  rw [trimL_dig hq, ← hv]
  refine ⟨?_, ?_⟩
  · congr 1
    rw [Nat.mul_comm, Nat.mul_add_div hd, Nat.div_eq_of_lt hr]; rfl
  · rw [Nat.mul_comm, Nat.mul_add_mod, Nat.mod_eq_of_lt hr]

/-! ### Shifting -/
theorem raise_inv {k c p : Nat} {a o : List Nat} (hol : k < o.length) (hv : val (o.take k) + 4294967296 ^ k * c = val (a.take k) * p) {s : Nat} (hs : s = a.getD k 0 * p + c) :
    val ((o.set k (s % 4294967296)).take (k + 1)) + 4294967296 ^ (k + 1) * (s / 4294967296) = val (a.take (k + 1)) * p := by
  rw [val_set_take _ _ _ hol, val_take_succ' a, Nat.pow_succ, Nat.add_mul]
  have h1 := carry_step (4294967296 ^ k) s
  have h2 : 4294967296 ^ k * s = 4294967296 ^ k * (a.getD k 0 * p) + 4294967296 ^ k * c := by rw [hs, Nat.mul_add]
  have h3 : 4294967296 ^ k * a.getD k 0 * p = 4294967296 ^ k * (a.getD k 0 * p) := by rw [Nat.mul_assoc]
  omega
theorem raise_end {c p : Nat} {a o : List Nat} (hol : o.length = a.length + 1) (hv : val (o.take a.length) + 4294967296 ^ a.length * c = val (a.take a.length) * p) : val (o.set a.length c) = val a * p := by
  have h1 := val_set_take o a.length c (by omega)
  rw [List.take_of_length_le (by simp; omega)] at h1
  rw [val_take_all a (Nat.le_refl _)] at hv
  omega

/-! ### Binary digits -/
def blen (n : Nat) : Nat := if n = 0 then 0 else n.log2 + 1
theorem blen_zero {n : Nat} : blen n = 0 ↔ n = 0 := by unfold blen; split <;> simp_all
theorem blen_le {n k : Nat} : blen n ≤ k ↔ n < 2 ^ k := by
  unfold blen
  split
  · rename_i h; subst h; simp [Nat.pow_pos]
  · rename_i h
    rw [Nat.succ_le_iff, Nat.log2_lt h]
theorem blen_lt {n k : Nat} : k < blen n ↔ 2 ^ k ≤ n := by
  rw [← Nat.not_le, blen_le, Nat.not_lt]
theorem blen_one {n : Nat} : blen n = 1 ↔ n = 1 := by
  have h1 := blen_le (n := n) (k := 1)
  have h0 := blen_zero (n := n)
  simp only [Nat.pow_one] at h1
  omega
theorem blen_eq {n k : Nat} (h1 : 2 ^ k ≤ n) (h2 : n < 2 ^ (k + 1)) : blen n = k + 1 := by
  have a := blen_lt.2 h1
  have b := blen_le.2 h2
  omega
theorem blen_div {n k : Nat} (h : 2 ^ k ≤ n) : blen n = k + blen (n / 2 ^ k) := by
  have hp : 0 < 2 ^ k := Nat.pow_pos (by omega)
  have h0 : n / 2 ^ k ≠ 0 := by
    intro e
    rw [Nat.div_eq_zero_iff] at e
    omega
  have h1 : 0 < blen (n / 2 ^ k) := by
    rcases Nat.eq_zero_or_pos (blen (n / 2 ^ k)) with e | e
    · exact absurd (blen_zero.1 e) h0
    · exact e
  obtain ⟨j, hj⟩ : ∃ j, blen (n / 2 ^ k) = j + 1 := ⟨_, (Nat.sub_add_cancel h1).symm⟩
  have h2 : 2 ^ j ≤ n / 2 ^ k := blen_lt.1 (by omega)
  have h3 : n / 2 ^ k < 2 ^ (j + 1) := blen_le.1 (by omega)
  rw [Nat.le_div_iff_mul_le hp, ← Nat.pow_add] at h2
  rw [Nat.div_lt_iff_lt_mul hp, ← Nat.pow_add] at h3
  rw [hj]
  have := blen_eq (n := n) (k := k + j) (by rwa [Nat.add_comm k]) (by rwa [Nat.add_comm k, Nat.add_right_comm])
  omega
theorem two32 : (4294967296 : Nat) = 2 ^ 32 := rfl
theorem blen_val {l : List Nat} (hL : Lim l) (h : Can l) (hl : 0 < l.length) : blen (val l) = 32 * (l.length - 1) + blen (l.getD (l.length - 1) 0) := by
  have hne := can_getLast h hl
  have hp : 0 < 4294967296 ^ (l.length - 1) := Nat.pow_pos (by omega)
  have hd : val (l.drop (l.length - 1)) = l.getD (l.length - 1) 0 := by
    rw [val_drop (by omega), show l.length - 1 + 1 = l.length by omega, List.drop_length]; simp [val]
  have hs := val_split l (l.length - 1) (by omega)
  have ht : val (l.take (l.length - 1)) < 4294967296 ^ (l.length - 1) := val_lt_len (lim_take hL _) (by simp)
  rw [hd] at hs
  have hpow : (2 : Nat) ^ (32 * (l.length - 1)) = 4294967296 ^ (l.length - 1) := by rw [Nat.pow_mul]
  have hge : 4294967296 ^ (l.length - 1) * 1 ≤ 4294967296 ^ (l.length - 1) * l.getD (l.length - 1) 0 := Nat.mul_le_mul_left _ (by omega)
  rw [blen_div (k := 32 * (l.length - 1)) (by rw [hpow]; omega), hpow]
  congr 2
  rw [hs, Nat.add_comm, Nat.mul_add_div hp, Nat.div_eq_of_lt ht]; rfl
end Go.Lg
namespace Go.Lg

section
variable {a b s x c : Nat}
theorem shlV (hs : s < 64) (h : a * 2 ^ s < 18446744073709551616) : shI .shl .u64 (a : Nat) (s : Nat) = some (.int .u64 ((a * 2 ^ s : Nat) : Int)) := by
  have e : min ((s : Int)).toNat IntKind.u64.bits = s := by show min s 64 = s; omega
  have e2 : (a : Int) * 2 ^ s = ((a * 2 ^ s : Nat) : Int) := by simp
  simp only [shI]
  rw [if_neg (by omega), e, e2, IntWalk.u64_in _ (by omega)]
theorem shrC {k : IntKind} {m : Nat} (hm : m ≤ k.bits) : shI .shr k (a : Nat) (m : Nat) = some (.int k ((a / 2 ^ m : Nat) : Int)) := by
  have e : min ((m : Int)).toNat k.bits = m := by show min m k.bits = m; omega
  simp only [shI]
  rw [if_neg (by omega), e, Int.fdiv_eq_ediv_of_nonneg _ (Int.pow_nonneg (by omega))]
  congr 2
theorem orV (hc : c < 2 ^ s) (h : x * 2 ^ s + c < 18446744073709551616) : binI .or .u64 (c : Nat) ((x * 2 ^ s : Nat) : Int) = some (.int .u64 ((x * 2 ^ s + c : Nat) : Int)) := by
  have e : (BitVec.ofInt IntKind.u64.bits (c : Int) ||| BitVec.ofInt IntKind.u64.bits ((x * 2 ^ s : Nat) : Int)).toNat = x * 2 ^ s + c := by
    rw [bv_nat, bv_nat, BitVec.toNat_or, BitVec.toNat_ofNat, BitVec.toNat_ofNat]
    have e1 : x * 2 ^ s % 2 ^ IntKind.u64.bits = x * 2 ^ s := Nat.mod_eq_of_lt (by show _ < 18446744073709551616; omega)
    have e2 : c % 2 ^ IntKind.u64.bits = c := Nat.mod_eq_of_lt (by show _ < 18446744073709551616; omega)
    rw [e1, e2, Nat.or_comm]
    have := Nat.shiftLeft_add_eq_or_of_lt (i := s) (b := c) hc x
    rw [Nat.shiftLeft_eq] at this
    exact this.symm
  simp only [binI, e]
  rw [IntWalk.u64_in _ (by omega)]
theorem orV' (hc : c < 2 ^ s) (h : x * 2 ^ s + c < 18446744073709551616) : binI .or .u64 ((x * 2 ^ s : Nat) : Int) (c : Nat) = some (.int .u64 ((x * 2 ^ s + c : Nat) : Int)) := by
  rw [← orV hc h]
  simp only [binI]
  rw [BitVec.or_comm]
theorem tbl {s : ByteArray} (h : (List.range 256).all (fun n => s[n]? == some (UInt8.ofNat (blen n))) = true) {n : Nat} (hn : n < 256) : s[n]? = some (UInt8.ofNat (blen n)) := by
  rw [List.all_eq_true] at h
  simpa using h n (by simpa using hn)
end

/-- the limbs of a number, so many of them -/
def padL : Nat → Nat → List Nat
  | 0, _ => []
  | k + 1, m => m % 4294967296 :: padL k (m / 4294967296)
theorem padL_len : ∀ k m, (padL k m).length = k
  | 0, _ => rfl
  | k + 1, m => by simp [padL, padL_len k]
theorem padL_lim : ∀ k m, Lim (padL k m)
  | 0, _ => fun x h => by simp [padL] at h
  | k + 1, m => fun x h => by
      simp only [padL, List.mem_cons] at h
      rcases h with rfl | h
      · omega
      · exact padL_lim k _ x h
theorem padL_eq : ∀ {o : List Nat} {k : Nat}, Lim o → o.length = k → o = padL k (val o)
  | [], k, _, h => by subst h; rfl
  | x :: xs, k, hl, h => by
      subst h
      have hx := hl x (by simp)
      have ih := padL_eq (o := xs) (k := xs.length) (fun y hy => hl y (by simp [hy])) rfl
      simp only [List.length_cons, padL, val]
      have e1 : (x + 4294967296 * val xs) % 4294967296 = x := by omega
      have e2 : (x + 4294967296 * val xs) / 4294967296 = val xs := by omega
      rw [e1, e2, ← ih]
theorem padL_val : ∀ {k m : Nat}, m < 4294967296 ^ k → val (padL k m) = m
  | 0, m, h => by simp at h; subst h; rfl
  | k + 1, m, h => by
      simp only [padL, val]
      rw [padL_val (k := k) (by rw [Nat.div_lt_iff_lt_mul (by omega)]; rwa [Nat.pow_succ] at h)]
      omega

section
variable {P : Program} {ρ : Operand → LV} {α : Type} {e : α → LV}
theorem OpA.lit2 {T E : TypeId} {x y : Operand} {d sz : Nat} {ag : Bool} {z a b : α} (he : EncOK e sz ag) (hT : P.underlying T = some (.slice E)) (hz : ZeroOK P E (e z)) (hE : TyIs P E sz ag) (hx : ρ x = e a) (hy : ρ y = e b) (hs0 : 0 < sz) (hs1 : sz ≤ 1000) :
    OpA P ρ d (.buildSlice T 2 #[(0, x), (1, y)]) (.ref d sz 0 2) ⟨sz, [a, b].map e, true⟩ := by
  have := OpA.lit (P := P) (ρ := ρ) (d := d) (T := T) (n := 2) (ps := #[(0, x), (1, y)]) hT hz (by rw [he.isAgg]; exact hE) (he.csize z) (by omega) (by omega) hs0 (by
    intro p hp
    simp only [List.mem_cons, List.not_mem_nil, or_false] at hp
    rcases hp with rfl | rfl
    · refine ⟨by simp, ?_, by rw [hx]; exact LV.pure_ne_any (he.pure _), by rw [hx]; exact LV.pure_ne_tup (he.pure _)⟩
      simp [lay, hx, he.csize, he.isAgg]
    · refine ⟨by simp, ?_, by rw [hy]; exact LV.pure_ne_any (he.pure _), by rw [hy]; exact LV.pure_ne_tup (he.pure _)⟩
      simp [lay, hy, he.csize, he.isAgg])
  simpa [buildL, hx, hy, List.replicate] using this
end

section
variable {P : Program} {n : Nat} {W w : World} {X Z0 : Nat → Prop} {L : St} {a : Act} {K : St → Prop} {Q : LEx → St → Prop}
/-- a list compared with nil: either way, but where it says so the list is empty -/
theorem nil_reg {s0 d1 d2 sz : Nat} {l : List LV} {T E ty ty' U : TypeId} {pos pos' : String} {af af' : Array Edge} (h0 : L.slot s0 = .list sz l) (hT : P.underlying T = some (.slice E))
    (hK : ∀ b : Bool, (b = true → l = []) → Q .normal ((L.put (some d1) (.list sz l)).put (some d2) (.v (.bool b)))) :
    ∀ n W X Z0 a w, Sim n W X Z0 L a w → dstsOk n (.region 0 [Oper.mk (some d1) (.move (.tmp s0)) ty pos af none, Oper.mk (some d2) (.binOp .eql T (.tmp d1) (.const (.slice none 0 0)) U) ty' pos' af' none].toArray false) = true →
      ∀ id, (Code.region id [Oper.mk (some d1) (.move (.tmp s0)) ty pos af none, Oper.mk (some d2) (.binOp .eql T (.tmp d1) (.const (.slice none 0 0)) U) ty' pos' af' none].toArray false).wp P (PostL n W X Z0 Q) a w := by
  intro n W X Z0 a w hs hd id
  simp only [dstsOk, List.all_cons, List.all_nil, Bool.and_true, Bool.and_eq_true, decide_eq_true_eq] at hd
  refine wp_region_list ?_
  have h1 := step_sound (P := P) (dr := false) (ops := [Oper.mk (some d1) (.move (.tmp s0)) ty pos af none, Oper.mk (some d2) (.binOp .eql T (.tmp d1) (.const (.slice none 0 0)) U) ty' pos' af' none].toArray)
    (o := Oper.mk (some d1) (.move (.tmp s0)) ty pos af none) hs (L' := L.put (some d1) (.list sz l))
    (.val (r := .list sz l) (fr := []) (H1 := L.heap) rfl (Heap.le_refl _) (fun _ _ h => by cases h) (.pure (by have := OpP.move (P := P) (H := L.heap) (ρ := L.ev) (.tmp s0); rwa [show L.ev (.tmp s0) = LV.list sz l from h0] at this)) rfl)
    (fun t ht => by cases ht; exact hd.1)
    (K := wpList P [Oper.mk (some d1) (.move (.tmp s0)) ty pos af none, Oper.mk (some d2) (.binOp .eql T (.tmp d1) (.const (.slice none 0 0)) U) ty' pos' af' none].toArray (PostL n W X Z0 Q)
      [Oper.mk (some d2) (.binOp .eql T (.tmp d1) (.const (.slice none 0 0)) U) ty' pos' af' none]) (Q := PostL n W X Z0 Q) (fun a' w' hs' => ?_)
  · unfold wpList
    split
    · rename_i h; rw [if_pos h] at h1; exact .inl h1
    · rename_i h; rw [if_neg h] at h1; exact h1
  · obtain ⟨hdf, hsz, μ, Z, hc, hr⟩ := hs'
    have e1 := hr d1
    rw [put_slot, if_pos rfl] at e1
    have e2 := e1.2 rfl
    simp only [Rep] at e2
    obtain ⟨ad, len, cap, q1, q2, q3, q4, q5⟩ := e2
    simp only [List.cons.injEq, and_true] at q1
    have hev : a'.eval (.tmp d1) = .slice ad len cap := q1
    have hw : Region.wanted (Oper.mk (some d2) (.binOp .eql T (.tmp d1) (.const (.slice none 0 0)) U) ty' pos' af' none) (yielded [Oper.mk (some d1) (.move (.tmp s0)) ty pos af none, Oper.mk (some d2) (.binOp .eql T (.tmp d1) (.const (.slice none 0 0)) U) ty' pos' af' none].toArray a'.tmps) = true := rfl
    unfold wpList
    rw [if_pos hw]
    left
    have hrun : (execOp a'.eval (Oper.mk (some d2) (.binOp .eql T (.tmp d1) (.const (.slice none 0 0)) U) ty' pos' af' none)).run P w' = .ok (.value (.bool ad.isNone)) w' := by
      have hv : a'.eval (.const (.slice none 0 0)) = .slice none 0 0 := rfl
      simp only [execOp, hev, hv]
      simp [eqGuard, binOp, run_equal_slice_nil w' T E ad len cap hT]
    unfold Oper.wp
    rw [hrun, Oper.upon_value]
    refine ⟨_, hK ad.isNone ?_, by rw [put_defers]; exact hdf, by rw [put_size]; exact hsz, μ, Z, by rw [put_heap]; exact hc, put_rep (fun t ht => by cases ht; rw [hsz]; exact hd.2) hr RepV.bool⟩
    intro hb
    rcases q4 with q4 | ⟨blk, off, c, T', fz, part, rest, g1, _⟩
    · exact q4
    · rw [g1] at hb; cases hb
end
end Go.Lg
