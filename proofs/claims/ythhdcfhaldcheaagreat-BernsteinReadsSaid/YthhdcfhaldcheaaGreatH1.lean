/- Polynomials of a greater formal degree; sums, differences. -/
import Derived.Test.YthhdcfhaldcheaaGreatE1
set_option linter.unusedVariables false
set_option linter.unusedSimpArgs false
set_option maxHeartbeats 8000000
set_option maxRecDepth 100000
attribute [local irreducible] Go.Lg.opsL Go.Lg.wpL Go.Lg.thenL Go.Lg.blockL
namespace Go.Proofs.YthhdcfhaldcheaaGreat
open Go.Lg
end Go.Proofs.YthhdcfhaldcheaaGreat
namespace Go.Lg
/-- a list that a call hands out as a block of its own, told as a list -/
theorem callP_own {P : Program} {f : FuncId} {args : List LV} {sz n : Nat} {vals : List LV} {mt : Bool} (h : CallOK P f args (.ref 1 sz 0 n) [⟨sz, vals, mt⟩]) (hp : pures vals = true) (hn : vals.length = n) : CallP P f args (.list sz vals) := by
  refine ⟨⟨h.1, fun W Z0 vs hz hr => Calls.mono (h.2 W Z0 vs hz hr) (fun e w' => ?_)⟩, fun g => LV.ren_pure g _ (by simp [LV.pure, hp])⟩
  rintro ⟨v, μ, Z, he, hc, hv⟩
  have hle : Heap.le (outHeap [⟨sz, vals, mt⟩]) (outHeap [⟨sz, vals, false⟩]) := fun b blk hb => by
    unfold outHeap at hb ⊢
    by_cases h0 : b = 0
    · rw [if_pos h0] at hb; cases hb
    · rw [if_neg h0] at hb
      rcases Nat.lt_or_ge (b - 1) 1 with h1 | h1
      · have e : b - 1 = 0 := by omega
        rw [e] at hb
        simp only [List.getElem?_cons_zero, Option.some.injEq] at hb
        subst hb
        exact ⟨false, by rw [if_neg h0, e]; rfl, fun _ => rfl, fun _ _ => h0⟩
      · rw [List.getElem?_eq_none (by simpa using h1)] at hb; cases hb
  obtain ⟨Z1, k1, k2⟩ := hc.widen hle
  have hfr : Frame Z μ w' w' := ⟨fun _ _ => rfl, fun _ id _ c _ _ hh => ⟨c, hh, rfl⟩⟩
  have hv1 := hv.mono k2 (fun _ _ h => h) hfr
  have hi : Imm (outHeap [⟨sz, vals, false⟩]) (.ref 1 sz 0 n) (.list sz vals) := by
    have := Imm.ref (H := outHeap [⟨sz, vals, false⟩]) (b := 1) (off := 0) (len := n) (blk := ⟨sz, vals, false⟩) rfl rfl hp (by simp [hn]) rfl
    simpa [← hn] using this
  refine ⟨v, drop1 μ 1, Z1, he, ?_, RepV.of1 (fun l h => by cases h) (hi.soundV k1 hv1)⟩
  have kk := Core.kill (L := ⟨fun _ => .any, outHeap [⟨sz, vals, false⟩]⟩) 1 (by decide) k1
  refine kk.reheap fun b id hb => ?_
  have hb1 : b ≠ 1 := fun e => by rw [e] at hb; simp [drop1] at hb
  have hb2 : μ b = some id := by unfold drop1 at hb; split at hb <;> first | exact hb | cases hb
  obtain ⟨blk, g1, _⟩ := k1.heap b id hb2
  unfold outHeap at g1
  split at g1
  · cases g1
  · rw [List.getElem?_eq_none (by simp; omega)] at g1; cases g1
end Go.Lg
namespace Go.Proofs.YthhdcfhaldcheaaGreat
open Go.Lg
theorem c_copiedP (p : List Rat) (hl : p.length ≤ 1048576) (hpr : ∀ x ∈ p, rl x ≤ 274877906944) : CallP Tryz.prog 134 [.list 3 (p.map ratL)] (.list 3 (p.map ratL)) :=
  callP_own (c_copiedO p hl hpr) (pures_map ratE _) (by simp)
/-! ### one degree more -/
def lifV (p : List Rat) (i : Nat) : Rat := (if 0 < i then ((i : Int) : Rat) / ((p.length : Int) : Rat) * p.getD (i - 1) 0 else 0) + (if i < p.length then (((p.length : Int) - (i : Int) : Int) : Rat) / ((p.length : Int) : Rat) * p.getD i 0 else 0)
def lifP (p : List Rat) : List Rat := (List.range (p.length + 1)).map (lifV p)
def itL : Nat → List Rat → List Rat
  | 0, p => p
  | k + 1, p => itL k (lifP p)
def upP (p : List Rat) (n : Nat) : List Rat := itL (n + 1 - p.length) p
theorem lifP_len (p : List Rat) : (lifP p).length = p.length + 1 := by simp [lifP]
theorem lifP_get {p : List Rat} {i : Nat} (h : i < p.length + 1) : (lifP p).getD i 0 = lifV p i := by
  rw [List.getD_eq_getElem?_getD, List.getElem?_eq_getElem (by rw [lifP_len]; exact h)]; simp [lifP]
theorem itL_len : ∀ (k : Nat) (p : List Rat), (itL k p).length = p.length + k
  | 0, p => rfl
  | k + 1, p => by rw [itL, itL_len k, lifP_len]; omega
theorem upP_len {p : List Rat} {n : Nat} (h : p.length ≤ n + 1) : (upP p n).length = n + 1 := by rw [upP, itL_len]; omega
theorem lifV_tt {p : List Rat} {i : Nat} (h0 : 0 < i) (h1 : i < p.length) : lifV p i = ((i : Int) : Rat) / ((p.length : Int) : Rat) * p.getD (i - 1) 0 + (((p.length : Int) - (i : Int) : Int) : Rat) / ((p.length : Int) : Rat) * p.getD i 0 := by
  rw [lifV, if_pos h0, if_pos h1]
theorem lifV_tf {p : List Rat} {i : Nat} (h0 : 0 < i) (h1 : ¬ i < p.length) : lifV p i = ((i : Int) : Rat) / ((p.length : Int) : Rat) * p.getD (i - 1) 0 := by
  rw [lifV, if_pos h0, if_neg h1, Rat.add_zero]
theorem lifV_ft {p : List Rat} {i : Nat} (h0 : ¬ 0 < i) (h1 : i < p.length) : lifV p i = (((p.length : Int) - (i : Int) : Int) : Rat) / ((p.length : Int) : Rat) * p.getD i 0 := by
  rw [lifV, if_neg h0, if_pos h1, Rat.zero_add]
/-- the numbers stay small enough through k elevations -/
def upT (p : List Rat) (n : Nat) : Prop := ∀ x ∈ p, (rl x + 3) * 2 ^ (n + 1 - p.length) ≤ 1073741824
theorem upT_rl {p : List Rat} {n : Nat} (h : upT p n) (k : Nat) : rl (p.getD k 0) ≤ 1073741824 := by
  rcases Nat.lt_or_ge k p.length with hk | hk
  · have := h _ (getD_mem hk)
    have h1 : 1 ≤ 2 ^ (n + 1 - p.length) := Nat.one_le_two_pow
    have := Nat.le_trans (Nat.le_mul_of_pos_right _ h1) this
    omega
  · rw [List.getD_eq_getElem?_getD, List.getElem?_eq_none hk]; show rl 0 ≤ _; rw [show rl 0 = 1 from rfl]; omega
theorem lifV_rl {p : List Rat} {R i : Nat} (hl : p.length < 4294967296) (hR : 1 ≤ R) (h : ∀ x ∈ p, rl x ≤ R) (hi : i ≤ p.length) : rl (lifV p i) ≤ 2 * R + 3 := by
  have h1 := rl_ints (n := (i : Int)) (d := (p.length : Int)) (by omega) (by omega)
  have h2 := rl_ints (n := (p.length : Int) - (i : Int)) (d := (p.length : Int)) (by omega) (by omega)
  have h3 := getD_rl hR h (i - 1)
  have h4 := getD_rl hR h i
  have h5 := rl_mul (((i : Int) : Rat) / ((p.length : Int) : Rat)) (p.getD (i - 1) 0)
  have h6 := rl_mul ((((p.length : Int) - (i : Int) : Int) : Rat) / ((p.length : Int) : Rat)) (p.getD i 0)
  have h0 : rl 0 = 1 := rfl
  by_cases ha : 0 < i <;> by_cases hb : i < p.length
  · rw [lifV_tt ha hb]
    have := rl_add (((i : Int) : Rat) / ((p.length : Int) : Rat) * p.getD (i - 1) 0) ((((p.length : Int) - (i : Int) : Int) : Rat) / ((p.length : Int) : Rat) * p.getD i 0)
    omega
  · rw [lifV_tf ha hb]; omega
  · rw [lifV_ft ha hb]; omega
  · rw [lifV, if_neg ha, if_neg hb]
    show rl (0 + 0) ≤ _
    rw [Rat.add_zero]; omega
theorem upT_step {p : List Rat} {n : Nat} (hl : p.length ≤ n) (hn : n ≤ 1000) (h0 : 0 < p.length) (h : upT p n) : upT (lifP p) n := by
  intro x hx
  obtain ⟨i, hi, rfl⟩ := List.mem_map.1 hx
  rw [List.mem_range] at hi
  obtain ⟨k, hk⟩ : ∃ k, n + 1 - p.length = k + 1 := ⟨n - p.length, by omega⟩
  have hk2 : n + 1 - (lifP p).length = k := by rw [lifP_len]; omega
  rw [hk2]
  unfold upT at h
  rw [hk] at h
  have hp : 0 < 2 ^ k := Nat.pow_pos (by omega)
  -- all numbers are at most R
  have hR : ∀ x ∈ p, rl x ≤ 1073741824 / 2 ^ (k + 1) - 3 := fun x hx => by
    have := h x hx
    have := (Nat.le_div_iff_mul_le (Nat.pow_pos (by omega))).2 this
    omega
  have h1 : 1 + 3 ≤ 1073741824 / 2 ^ (k + 1) := by
    have hx := List.getElem_mem (l := p) (n := 0) h0
    have := (Nat.le_div_iff_mul_le (Nat.pow_pos (by omega))).2 (h _ hx)
    have := rl_pos p[0]
    omega
  have := lifV_rl (R := 1073741824 / 2 ^ (k + 1) - 3) (by omega) (by omega) hR (show i ≤ p.length by omega)
  have e : (rl (lifV p i) + 3) ≤ 2 * (1073741824 / 2 ^ (k + 1)) := by omega
  refine Nat.le_trans (Nat.mul_le_mul_right _ e) ?_
  have e2 : 2 * (1073741824 / 2 ^ (k + 1)) * 2 ^ k = 1073741824 / 2 ^ (k + 1) * 2 ^ (k + 1) := by rw [Nat.pow_succ]; simp only [Nat.mul_comm, Nat.mul_left_comm, Nat.mul_assoc]
  rw [e2]
  exact Nat.div_mul_le_self _ _
theorem upT_it {n : Nat} (hn : n ≤ 1000) : ∀ (k : Nat) (p : List Rat), 0 < p.length → p.length + k ≤ n + 1 → upT p n → upT (itL k p) n
  | 0, _, _, _, h => h
  | k + 1, p, h0, hk, h => upT_it hn k (lifP p) (by rw [lifP_len]; omega) (by rw [lifP_len]; omega) (upT_step (by omega) hn h0 h)
theorem upT_mem {p : List Rat} {n : Nat} (h : upT p n) : ∀ x ∈ p, rl x ≤ 1073741824 := fun x hx => by
  have h2 := Nat.le_trans (Nat.le_mul_of_pos_right (rl x + 3) (Nat.one_le_two_pow (n := n + 1 - p.length))) (h x hx)
  omega
/-- every elevation up to the degree n has numbers that are short enough -/
def upS (p : List Rat) (n : Nat) : Prop := (∀ x ∈ p, rl x ≤ 1073741824) ∧ ∀ k, p.length + k ≤ n + 1 → ∀ x ∈ itL k p, rl x ≤ 1073741824
theorem upS_of {p : List Rat} {n : Nat} (hn : n ≤ 1000) (h0 : 0 < p.length) (h : upT p n) : upS p n := ⟨upT_mem h, fun k hk => upT_mem (upT_it hn k p h0 hk h)⟩
theorem upS_rl {p : List Rat} {n : Nat} (h : upS p n) (k : Nat) : rl (p.getD k 0) ≤ 1073741824 := getD_rl (by decide) h.1 k
theorem upS_step {p : List Rat} {n : Nat} (hl : p.length ≤ n) (h : upS p n) : upS (lifP p) n := ⟨h.2 1 (by omega), fun k hk => h.2 (k + 1) (by rw [lifP_len] at hk; omega)⟩
/-! ### elevations over a common denominator -/
def cmB (p : List Rat) (A B : Nat) : Prop := ∃ D : Nat, 0 < D ∧ D ≤ B ∧ ∀ x ∈ p, ∃ a : Int, a.natAbs ≤ A ∧ x = (a : Rat) / ((D : Int) : Rat)
theorem cm_get {p : List Rat} {A D : Nat} (hD : 0 < D) (h : ∀ x ∈ p, ∃ a : Int, a.natAbs ≤ A ∧ x = (a : Rat) / ((D : Int) : Rat)) (i : Nat) : ∃ a : Int, a.natAbs ≤ A ∧ p.getD i 0 = (a : Rat) / ((D : Int) : Rat) := by
  rcases Nat.lt_or_ge i p.length with hi | hi
  · exact h _ (getD_mem hi)
  · refine ⟨0, Nat.zero_le _, ?_⟩
    rw [List.getD_eq_getElem?_getD, List.getElem?_eq_none hi, Rat.div_def]
    exact (Rat.zero_mul _).symm
theorem cm_lift {p : List Rat} {A B N : Nat} (h0 : 0 < p.length) (hN : p.length ≤ N) (h : cmB p A B) : cmB (lifP p) (A * N) (B * N) := by
  obtain ⟨D, hD, hDB, hx⟩ := h
  refine ⟨D * p.length, Nat.mul_pos hD h0, Nat.mul_le_mul hDB hN, fun x hxm => ?_⟩
  obtain ⟨i, hi, rfl⟩ := List.mem_map.1 hxm
  rw [List.mem_range] at hi
  obtain ⟨a, ha, ea⟩ := cm_get hD hx (i - 1)
  obtain ⟨b, hb, eb⟩ := cm_get hD hx i
  have hd : ((D : Int) : Rat) ≠ 0 := fun e => by have := Rat.intCast_eq_zero_iff.1 e; omega
  have hn : ((p.length : Int) : Rat) ≠ 0 := fun e => by have := Rat.intCast_eq_zero_iff.1 e; omega
  have e1 := Rat.mul_inv_cancel _ hd
  have e2 := Rat.mul_inv_cancel _ hn
  have hA : ∀ (u v : Nat) (a b : Int), a.natAbs ≤ A → b.natAbs ≤ A → u + v = p.length → ((u : Int) * a + (v : Int) * b).natAbs ≤ A * N := fun u v a b ha hb huv => by
    refine Nat.le_trans (Int.natAbs_add_le _ _) ?_
    rw [Int.natAbs_mul, Int.natAbs_mul, Int.natAbs_natCast, Int.natAbs_natCast]
    have g1 := Nat.mul_le_mul_left u ha
    have g2 := Nat.mul_le_mul_left v hb
    have g3 := Nat.mul_le_mul_left A hN
    rw [← huv, Nat.mul_add, Nat.mul_comm A u, Nat.mul_comm A v] at g3
    omega
  have hV : ∀ (u v : Nat) (a b : Int), u + v = p.length → ((u : Int) : Rat) / ((p.length : Int) : Rat) * ((a : Rat) / ((D : Int) : Rat)) + (((v : Nat) : Int) : Rat) / ((p.length : Int) : Rat) * ((b : Rat) / ((D : Int) : Rat)) = (((u : Int) * a + (v : Int) * b : Int) : Rat) / (((D * p.length : Nat) : Int) : Rat) := fun u v a b _ => by
    rw [show (((D * p.length : Nat) : Int) : Rat) = ((D : Int) : Rat) * ((p.length : Int) : Rat) by rw [← Rat.intCast_mul]; simp, Rat.intCast_add, Rat.intCast_mul, Rat.intCast_mul]
    simp only [Rat.div_def, Rat.inv_mul_rev]
    grind
  show ∃ c : Int, c.natAbs ≤ A * N ∧ lifV p i = _
  by_cases h1 : 0 < i <;> by_cases h2 : i < p.length
  · refine ⟨(i : Int) * a + ((p.length - i : Nat) : Int) * b, hA i (p.length - i) a b ha hb (by omega), ?_⟩
    rw [lifV_tt h1 h2, ea, eb, ← hV i (p.length - i) a b (by omega), show (((p.length - i : Nat) : Int)) = (p.length : Int) - (i : Int) by omega]
  · refine ⟨(i : Int) * a + ((p.length - i : Nat) : Int) * 0, hA i (p.length - i) a 0 ha (Nat.zero_le _) (by omega), ?_⟩
    rw [lifV_tf h1 h2, ea, ← hV i (p.length - i) a 0 (by omega), show (((p.length - i : Nat) : Int)) = 0 by omega, show (((0 : Int) : Rat) / ((p.length : Int) : Rat)) = 0 by rw [Rat.div_def]; exact Rat.zero_mul _, Rat.zero_mul, Rat.add_zero]
  · refine ⟨((0 : Nat) : Int) * 0 + ((p.length : Nat) : Int) * b, hA 0 p.length 0 b (Nat.zero_le _) hb (by omega), ?_⟩
    rw [lifV_ft h1 h2, eb, ← hV 0 p.length 0 b (by omega), show (p.length : Int) - (i : Int) = (p.length : Int) by omega, show ((((0 : Nat) : Int) : Rat) / ((p.length : Int) : Rat)) = 0 by rw [Rat.div_def]; exact Rat.zero_mul _, Rat.zero_mul, Rat.zero_add]
  · omega
theorem cm_it {N : Nat} : ∀ (k : Nat) (p : List Rat) (A B : Nat), 0 < p.length → p.length + k ≤ N + 1 → cmB p A B → cmB (itL k p) (A * N ^ k) (B * N ^ k)
  | 0, p, A, B, _, _, h => by simpa [itL] using h
  | k + 1, p, A, B, h0, hk, h => by
    have := cm_it (N := N) k (lifP p) (A * N) (B * N) (by rw [lifP_len]; omega) (by rw [lifP_len]; omega) (cm_lift h0 (by omega) h)
    rw [itL, Nat.pow_succ, Nat.mul_comm (N ^ k) N, ← Nat.mul_assoc, ← Nat.mul_assoc]; exact this
theorem cm_rl {p : List Rat} {A B R : Nat} (hA : A < 4294967296 ^ R) (hB : B < 4294967296 ^ R) (hR : 1 ≤ R) (h : cmB p A B) : ∀ x ∈ p, rl x ≤ R := fun x hx => by
  obtain ⟨D, hD, hDB, hx2⟩ := h
  obtain ⟨a, ha, rfl⟩ := hx2 x hx
  rw [← qv_ints]
  have := rl_qv (k := R) (decide (a < 0) != decide ((D : Int) < 0)) (Nat.lt_of_le_of_lt ha hA) (show (D : Int).natAbs < 4294967296 ^ R by rw [Int.natAbs_natCast]; omega)
  omega
theorem cm_of : ∀ {p : List Rat}, (∀ x ∈ p, rl x ≤ 1) → cmB p (4294967296 ^ p.length) (4294967296 ^ p.length)
  | [], _ => ⟨1, by decide, by decide, fun x hx => by cases hx⟩
  | x :: p, h => by
    obtain ⟨D, hD, hDB, hp⟩ := cm_of (fun y hy => h y (List.mem_cons_of_mem _ hy))
    have hx := h x (List.mem_cons_self ..)
    have hl := rl_lt x
    have e0 : 4294967296 ^ rl x ≤ 4294967296 := Nat.le_trans (Nat.pow_le_pow_right (by decide) hx) (by decide)
    have hdp := x.den_pos
    have hdp : 0 < x.den := hdp
    rw [List.length_cons, Nat.pow_succ]
    generalize 4294967296 ^ p.length = B at *
    have hxd : ((x.den : Int) : Rat) ≠ 0 := fun e => by have := Rat.intCast_eq_zero_iff.1 e; omega
    have hDd : ((D : Int) : Rat) ≠ 0 := fun e => by have := Rat.intCast_eq_zero_iff.1 e; omega
    have e1 := Rat.mul_inv_cancel _ hxd
    have e2 := Rat.mul_inv_cancel _ hDd
    have ec : (((D * x.den : Nat) : Int) : Rat) = ((D : Int) : Rat) * ((x.den : Int) : Rat) := by rw [← Rat.intCast_mul]; simp
    refine ⟨D * x.den, Nat.mul_pos hD hdp, Nat.mul_le_mul hDB (by omega), fun y hy => ?_⟩
    rcases List.mem_cons.1 hy with rfl | hy
    · refine ⟨(D : Int) * y.num, by rw [Int.natAbs_mul, Int.natAbs_natCast]; exact Nat.mul_le_mul hDB (by omega), ?_⟩
      have hq : y = (y.num : Rat) / ((y.den : Int) : Rat) := by rw [← Rat.divInt_eq_div, Rat.num_divInt_den]
      rw [ec, Rat.intCast_mul, Rat.div_def, Rat.inv_mul_rev]
      rw [Rat.div_def] at hq
      grind
    · obtain ⟨a, ha, rfl⟩ := hp y hy
      refine ⟨a * (x.den : Int), by rw [Int.natAbs_mul, Int.natAbs_natCast]; exact Nat.mul_le_mul ha (by omega), ?_⟩
      rw [ec, Rat.intCast_mul, Rat.div_def, Rat.div_def, Rat.inv_mul_rev]
      grind
theorem up_rl14 {p : List Rat} {n : Nat} (h1 : ∀ x ∈ p, rl x ≤ 1) (h0 : 0 < p.length) (hl : p.length ≤ 8) (hn : n ≤ 40) : ∀ k, p.length + k ≤ n + 1 → ∀ x ∈ itL k p, rl x ≤ 16 := fun k hk => by
  have hN : 40 ^ k ≤ 40 ^ 40 := Nat.pow_le_pow_right (by decide) (by omega)
  have hB : 4294967296 ^ p.length ≤ 4294967296 ^ 8 := Nat.pow_le_pow_right (by decide) hl
  have hm := Nat.lt_of_le_of_lt (Nat.mul_le_mul hB hN) (show 4294967296 ^ 8 * 40 ^ 40 < 4294967296 ^ 16 by decide)
  exact cm_rl hm hm (by decide) (cm_it (N := 40) k p _ _ h0 (by omega) (cm_of h1))
theorem upS_cm {p : List Rat} {n : Nat} (h1 : ∀ x ∈ p, rl x ≤ 1) (h0 : 0 < p.length) (hl : p.length ≤ 8) (hn : n ≤ 40) : upS p n :=
  ⟨fun x hx => Nat.le_trans (h1 x hx) (by decide), fun k hk x hx => Nat.le_trans (up_rl14 h1 h0 hl hn k hk x hx) (by decide)⟩
theorem upP_self {p : List Rat} {n : Nat} (h : n + 1 ≤ p.length) : upP p n = p := by rw [upP, show n + 1 - p.length = 0 by omega]; rfl
theorem itL_step {p : List Rat} {n : Nat} (h : p.length ≤ n) : itL (n + 1 - (lifP p).length) (lifP p) = itL (n + 1 - p.length) p := by
  rw [show n + 1 - p.length = (n + 1 - (lifP p).length) + 1 by rw [lifP_len]; omega]; rfl
def zipG (g : Rat → Rat → Rat) (a b : List Rat) : List Rat := (List.range a.length).map fun i => g (a.getD i 0) (b.getD i 0)
theorem zipG_len (g : Rat → Rat → Rat) (a b : List Rat) : (zipG g a b).length = a.length := by simp [zipG]
theorem zipG_get {g : Rat → Rat → Rat} {a b : List Rat} {i : Nat} (h : i < a.length) : (zipG g a b).getD i 0 = g (a.getD i 0) (b.getD i 0) := by
  rw [List.getD_eq_getElem?_getD, List.getElem?_eq_getElem (by rw [zipG_len]; exact h)]; simp [zipG]
namespace H_c_up
theorem zSm {p q : Prop} (k : q) (e : p = q := by simp only [e1, e2, e3, e4, p1, p2, p3, q1, q2, q3, l1, t0, t1, r1, r2, r3, r4, Nat.zero_add, Nat.reduceMul, Nat.reduceAdd, b1, b2, b3, b4, b5, b6, i1, i2, i3, i4, i5, i6, Nat.reduceBEq, dfq, List.length_set, List.set_set, egs, egz, eim, Rat.zero_add, kills_map ratE, ratL_kill, LV.kill, kills]; exact rfl) : p := e.mpr k
end H_c_up
open H_c_up in
theorem c_up (p : List Rat) (n : Nat) (hp0 : 0 < p.length) (hn : n ≤ 1000) (hl : p.length ≤ 1001) (hs : upS p n) : CallP Tryz.prog 104 [.list 3 (p.map ratL), nI64 n] (.list 3 ((upP p n).map ratL)) := by
  refine fnP Tryz.func104 ?_
  have egs : True := trivial
  have egz : True := trivial
  have eim : True := trivial
  refine zg8 ?_
  refine cp am1 (c_copiedP p (by omega) (fun x hx => by have := upS_rl hs; have h9 := List.getElem_of_mem hx; obtain ⟨k, hk, rfl⟩ := h9; have h8 := this k; rw [List.getD_eq_getElem?_getD, List.getElem?_eq_getElem hk] at h8; exact Nat.le_trans h8 (by decide))) ?_
  refine zg5 ?_
  refine lp1 (fun (o : List Rat) L => (((St.mk L.slot (hp [])).put (some 1) (nI64 n)).put (some 5) (.list 3 (o.map ratL)))) (fun o => 0 < o.length ∧ o.length ≤ 1001 ∧ upS o n ∧ itL (n + 1 - o.length) o = upP p n) (fun o => n + 1 - o.length) p ⟨hp0, hl, hs, rfl⟩ ?_
  rintro o L1 ⟨ho0, hol, hos, hit⟩
  refine zg7 ?_
  refine op_if 18 rfl (fun h18r h18 => ?_) (fun h18r h18 => ?_)
  · refine zg7 ?_
    refine wl_if rfl (fun h23r h23 => ?_) (fun h23r h23 => ?_)
    · have hon : o.length ≤ n := by omega
      refine zg13 ?_
      refine st_pure rfl (.bin rfl rfl (add1N (by omega))) ?_
      refine st_alloc rfl rfl (.mkE (n := (o.length + 1)) (m := (o.length + 1)) ml ml om om om) ?_
      refine zg12 ?_
      refine lp2 (fun (i : Nat) (w : List Rat) L => ((((((((St.mk L.slot (hp [(28, ⟨3, w.map ratL, true⟩)])).put (some 1) (nI64 n)).put (some 5) (.list 3 (o.map ratL))).put (some 6) (nI64 o.length)).put (some 7) (.ref 28 3 0 (o.length + 1))).put (some 29) (.ref 28 3 0 (o.length + 1))).put (some 30) (nI64 (o.length + 1))).put (some 31) (nI64 i))) (fun i w => i ≤ o.length + 1 ∧ w.length = o.length + 1 ∧ w.take i = (lifP o).take i ∧ ∀ x, i ≤ x → w.getD x 0 = 0) (fun i w => o.length + 1 - i) 0 (List.replicate (o.length + 1) 0) ⟨Nat.zero_le _, by simp, rfl, fun x _ => by simp [List.getD_eq_getElem?_getD, List.getElem?_replicate]; split <;> rfl⟩ ?_
      rintro i w L2 ⟨hi, hwl, hwt, hz⟩
      refine zg6 ?_
      refine wl_if rfl (fun h32r h32 => ?_) (fun h32r h32 => ?_)
      · have hi2 : i < o.length + 1 := by omega
        have hf1 := rl_ints (n := (i : Int)) (d := (o.length : Int)) (by omega) (by omega)
        have hf2 := rl_ints (n := (o.length : Int) - (i : Int)) (d := (o.length : Int)) (by omega) (by omega)
        have hr1 := upS_rl hos (i - 1)
        have hr2 := upS_rl hos i
        have hm1 := rl_mul (((i : Int) : Rat) / ((o.length : Int) : Rat)) (o.getD (i - 1) 0)
        have hm2 := rl_mul ((((o.length : Int) - (i : Int) : Int) : Rat) / ((o.length : Int) : Rat)) (o.getD i 0)
        have egs := fun v => set_get_self (o := w) (i := i) (v := v) (by omega)
        have egz := hz i (Nat.le_refl _)
        have eim : ((i : Int) - 1).toNat = i - 1 := by omega
        have hr0 : rl 0 = 1 := rfl
        refine zg17 ?_
        refine wl_if rfl (fun h35r h35 => ?_) (fun h35r h35 => ?_)
        · have hi0 : 0 < i := by omega
          refine zg4 ?_
          refine cp am2 (c_RMake (i : Int) (o.length : Int) (by omega) (by omega) (by omega) (by omega) (by omega)) ?_
          refine zg8 ?_
          refine wl_regD 10 (by decide +kernel) ?_
          refine zg8 ?_
          try simp only [t1, dfq, eim]
          refine cp am2 (c_RMul _ _ (by omega)) ?_
          refine zg12 ?_
          refine wl_if rfl (fun h55r h55 => ?_) (fun h55r h55 => ?_)
          · have hi1 : i < o.length := by omega
            refine zg4 ?_
            refine st_pure rfl (.bin rfl rfl (sub64 (by omega) (by omega))) ?_
            refine zg1 ?_
            refine cp am2 (c_RMake ((o.length : Int) - (i : Int)) (o.length : Int) (by omega) (by omega) (by omega) (by omega) (by omega)) ?_
            refine zg8 ?_
            refine wl_regD 14 (by decide +kernel) ?_
            refine zg11 ?_
            try simp only [t1, dfq]
            refine cp am2 (c_RMul _ _ (by omega)) ?_
            try simp only [t1, dfq, Nat.zero_add, egs, egz]
            refine cp am2 (c_RAdd _ _ (by omega)) ?_
            refine zg5 ?_
            refine wl_regW ((Weak.kill _ 9).trans (Weak.kill _ 11)) ?_
            refine zg4 ?_
            exact nx2 (i + 1) (w.set i (((i : Int) : Rat) / ((o.length : Int) : Rat) * o.getD (i - 1) 0 + (((o.length : Int) - (i : Int) : Int) : Rat) / ((o.length : Int) : Rat) * o.getD i 0)) ⟨by omega, by simp [hwl], set_takeR (by rw [lifP_len]; omega) (by rw [lifP_len]; omega) hwt (by rw [lifP_get (by omega), lifV_tt hi0 hi1]), fun x hx => by rw [set_getD _ _ _ _ (by omega), if_neg (by omega)]; exact hz x (by omega)⟩
          · have hi1 : ¬ i < o.length := by omega
            refine zg3 ?_
            refine wl_regW ((Weak.kill _ 9).trans (Weak.kill _ 11)) ?_
            refine zg4 ?_
            exact nx2 (i + 1) (w.set i (((i : Int) : Rat) / ((o.length : Int) : Rat) * o.getD (i - 1) 0)) ⟨by omega, by simp [hwl], set_takeR (by rw [lifP_len]; omega) (by rw [lifP_len]; omega) hwt (by rw [lifP_get (by omega), lifV_tf hi0 hi1]), fun x hx => by rw [set_getD _ _ _ _ (by omega), if_neg (by omega)]; exact hz x (by omega)⟩
        · have hi0 : ¬ 0 < i := by omega
          refine zg10 ?_
          refine wl_if rfl (fun h55r h55 => ?_) (fun h55r h55 => ?_)
          · have hi1 : i < o.length := by omega
            refine zg4 ?_
            refine st_pure rfl (.bin rfl rfl (sub64 (by omega) (by omega))) ?_
            refine zg1 ?_
            refine cp am2 (c_RMake ((o.length : Int) - (i : Int)) (o.length : Int) (by omega) (by omega) (by omega) (by omega) (by omega)) ?_
            refine zg8 ?_
            refine wl_regD 14 (by decide +kernel) ?_
            refine zg11 ?_
            try simp only [t1, dfq]
            refine cp am2 (c_RMul _ _ (by omega)) ?_
            try simp only [t1, dfq, Nat.zero_add, egs, egz]
            refine cp am2 (c_RAdd _ _ (by omega)) ?_
            refine zg5 ?_
            refine wl_regW ((Weak.kill _ 9).trans (Weak.kill _ 11)) ?_
            refine zg4 ?_
            exact nx2 (i + 1) (w.set i ((((o.length : Int) - (i : Int) : Int) : Rat) / ((o.length : Int) : Rat) * o.getD i 0)) ⟨by omega, by simp [hwl], set_takeR (by rw [lifP_len]; omega) (by rw [lifP_len]; omega) hwt (by rw [lifP_get (by omega), lifV_ft hi0 hi1]), fun x hx => by rw [set_getD _ _ _ _ (by omega), if_neg (by omega)]; exact hz x (by omega)⟩
          · have hi1 : ¬ i < o.length := by omega
            refine zg3 ?_
            refine wl_regW ((Weak.kill _ 9).trans (Weak.kill _ 11)) ?_
            refine zg4 ?_
            exact nx2 (i + 1) w (False.elim (by omega))
      · obtain rfl : i = o.length + 1 := by omega
        have hE : w = lifP o := by
          rw [List.take_of_length_le (by omega), List.take_of_length_le (by rw [lifP_len]; omega)] at hwt
          exact hwt
        subst hE
        refine zg5 ?_
        refine wl_regW ((Weak.imm (t := 7) [28] rfl rfl (imm_refm ratE rfl rfl (by rw [lifP_len]))).trans (Weak.kill _ 28)) ?_
        refine zg5 ?_
        exact nx1 (lifP o) ⟨by rw [lifP_len]; omega, by rw [lifP_len]; omega, upS_step (by omega) hos, by rw [itL_step (by omega)]; exact hit⟩ (hm := by rw [lifP_len]; omega)
    · refine zg12 ?_
      have hE : upP p n = o := by rw [← hit, show n + 1 - o.length = 0 by omega]; rfl
      rw [hE]
      exact ret1 rfl (by first | exact .pure rfl | exact .pure (limL_pure _) | exact .pure (magL_pure _) | exact .pure (ratE.pure _) | exact .pure (pure_lst u32E _ _) | exact .pure (pure_lst ratE _ _))
  · refine zg20 ?_
    have hE : upP p n = o := by rw [← hit, show n + 1 - o.length = 0 by omega]; rfl
    rw [hE]
    exact ret1 rfl (by first | exact .pure rfl | exact .pure (limL_pure _) | exact .pure (magL_pure _) | exact .pure (ratE.pure _) | exact .pure (pure_lst u32E _ _) | exact .pure (pure_lst ratE _ _))
end Go.Proofs.YthhdcfhaldcheaaGreat
