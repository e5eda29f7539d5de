/- Values of polynomials: products, derivatives, powers, parts. -/
import Derived.Test.YthhdcfhaldcheaaGreatE1
import Derived.Test.YthhdcfhaldcheaaGreatH1
set_option linter.unusedVariables false
set_option linter.unusedSimpArgs false
set_option maxHeartbeats 8000000
set_option maxRecDepth 100000
attribute [local irreducible] Go.Lg.opsL Go.Lg.wpL Go.Lg.thenL Go.Lg.blockL
namespace Go.Proofs.YthhdcfhaldcheaaGreat
open Go.Lg
/-! ### the n-th power of a + b S at 0, S the shift -/
/-! ### with the binomials -/
def gH (a b : Rat) : Nat → (Nat → Rat) → Rat
  | 0, f => f 0
  | n + 1, f => f 0 * a ^ (n + 1) + b * gH a b n (fun k => f (k + 1))
theorem gH_add (a b : Rat) : ∀ (n : Nat) (f g : Nat → Rat), gH a b n (fun k => f k + g k) = gH a b n f + gH a b n g
  | 0, f, g => rfl
  | n + 1, f, g => by rw [gH, gH, gH, gH_add a b n]; grind
theorem gH_mul (a b c : Rat) : ∀ (n : Nat) (f : Nat → Rat), gH a b n (fun k => c * f k) = c * gH a b n f
  | 0, f => rfl
  | n + 1, f => by rw [gH, gH, gH_mul a b c n]; grind
theorem gH_tail (a b : Rat) : ∀ (n : Nat) (f : Nat → Rat), f (n + 1) = 0 → gH a b (n + 1) f = a * gH a b n f
  | 0, f, h => by
    show f 0 * a ^ 1 + b * f 1 = a * f 0
    rw [h]; grind
  | n + 1, f, h => by
    rw [gH, gH_tail a b n (fun k => f (k + 1)) h, gH]
    grind
theorem gH_tails (a b : Rat) (f : Nat → Rat) (m : Nat) (h : ∀ k, m < k → f k = 0) : ∀ n, gH a b (m + n) f = a ^ n * gH a b m f
  | 0 => by simp
  | n + 1 => by
    rw [← Nat.add_assoc, gH_tail a b (m + n) f (h _ (by omega)), gH_tails a b f m h n]; grind
theorem gH_sr (a b : Rat) (n : Nat) (f : Nat → Rat) : gH a b (n + 1) (fun k => if k = 0 then 0 else f (k - 1)) = b * gH a b n f := by
  rw [gH, if_pos rfl]
  have : (fun k => if k + 1 = 0 then 0 else f (k + 1 - 1)) = f := by funext k; rw [if_neg (by omega)]; rfl
  rw [this]; grind
def cR (n k : Nat) : Rat := ((chs n k : Nat) : Int)
theorem cR_pas (n k : Nat) : cR (n + 1) k = cR n k + (if k = 0 then 0 else cR n (k - 1)) := by
  unfold cR
  cases k with
  | zero => rw [chs_zero, chs_zero, if_pos rfl, Rat.add_zero]
  | succ k =>
    rw [if_neg (by omega), chs, ← Rat.intCast_add]
    congr 1
    rw [show k + 1 - 1 = k from rfl]; omega
theorem fE_gH (a b : Rat) : ∀ (n : Nat) (f : Nat → Rat), fE a b n f = gH a b n (fun k => cR n k * f k)
  | 0, f => by
    show f 0 = cR 0 0 * f 0
    rw [show cR 0 0 = 1 from rfl, Rat.one_mul]
  | n + 1, f => by
    have e : (fun k => cR (n + 1) k * f k) = fun k => (fun k => cR n k * f k) k + (fun k => if k = 0 then 0 else (fun j => cR n j * f (j + 1)) (k - 1)) k := by
      funext k
      show cR (n + 1) k * f k = cR n k * f k + (if k = 0 then 0 else cR n (k - 1) * f (k - 1 + 1))
      rw [cR_pas]
      by_cases h : k = 0
      · rw [if_pos h, if_pos h]; grind
      · rw [if_neg h, if_neg h, show k - 1 + 1 = k by omega]; grind
    have hz : cR n (n + 1) = 0 := by unfold cR; rw [chs_gt (by omega)]; rfl
    have h2 := gH_sr a b n (fun j => cR n j * f (j + 1))
    rw [e, gH_add, h2, gH_tail _ _ _ _ (by show cR n (n + 1) * f (n + 1) = 0; rw [hz, Rat.zero_mul]), fE_step, fE_gH a b n f, fE_gH a b n (fun i => f (i + 1))]
/-- the coefficients times binomials, 0 behind -/
def sq (p : List Rat) (k : Nat) : Rat := cR (p.length - 1) k * p.getD k 0
theorem sq_gt {p : List Rat} {k : Nat} (h : p.length ≤ k) : sq p k = 0 := by unfold sq; rw [ge_zero h, Rat.mul_zero]
theorem ev_gH {p : List Rat} {t : Rat} (h : 0 < p.length) : evP p t = gH (1 - t) t (p.length - 1) (sq p) := by rw [ev_fE h, fE_gH]; rfl
theorem cR_ne {n k : Nat} (h : k ≤ n) : cR n k ≠ 0 := by
  have := chs_pos h
  exact fun e => by have := Rat.intCast_eq_zero_iff.1 e; omega
theorem sq_ext {p q : List Rat} (hl : p.length = q.length) (h : ∀ k, sq p k = sq q k) : p = q := by
  refine ext0 hl fun k hk => ?_
  have := h k
  unfold sq at this
  rw [← hl] at this
  have hc := cR_ne (n := p.length - 1) (k := k) (by omega)
  have h2 : cR (p.length - 1) k * (p.getD k 0 - q.getD k 0) = 0 := by grind
  rcases Rat.mul_eq_zero.1 h2 with e | e
  · exact absurd e hc
  · grind
/-! ### sums -/
def sm : Nat → (Nat → Rat) → Rat
  | 0, _ => 0
  | n + 1, f => sm n f + f n
theorem sm_congr : ∀ (n : Nat) (f g : Nat → Rat), (∀ i, i < n → f i = g i) → sm n f = sm n g
  | 0, _, _, _ => rfl
  | n + 1, f, g, h => by rw [sm, sm, sm_congr n f g (fun i hi => h i (by omega)), h n (by omega)]
theorem sm_add : ∀ (n : Nat) (f g : Nat → Rat), sm n (fun i => f i + g i) = sm n f + sm n g
  | 0, _, _ => by show (0 : Rat) = 0 + 0; grind
  | n + 1, f, g => by rw [sm, sm, sm, sm_add n]; grind
theorem sm_mul (c : Rat) : ∀ (n : Nat) (f : Nat → Rat), sm n (fun i => c * f i) = c * sm n f
  | 0, _ => by show (0 : Rat) = c * 0; grind
  | n + 1, f => by rw [sm, sm, sm_mul c n]; grind
theorem sm_head : ∀ (n : Nat) (f : Nat → Rat), sm (n + 1) f = f 0 + sm n (fun i => f (i + 1))
  | 0, f => by show 0 + f 0 = f 0 + 0; grind
  | n + 1, f => by rw [sm, sm_head n f, sm]; grind
theorem sm_zero (n : Nat) (f : Nat → Rat) (h : ∀ i, i < n → f i = 0) : sm n f = 0 := by
  induction n with
  | zero => rfl
  | succ n ih => rw [sm, ih (fun i hi => h i (by omega)), h n (by omega)]; exact Rat.add_zero 0
theorem sm_ext (n : Nat) (f : Nat → Rat) (h : ∀ i, n ≤ i → f i = 0) : ∀ m, sm (n + m) f = sm n f
  | 0 => rfl
  | m + 1 => by rw [← Nat.add_assoc, sm, sm_ext n f h m, h _ (by omega)]; grind
/-- products of sequences -/
def cf (f g : Nat → Rat) (k : Nat) : Rat := sm (k + 1) fun i => f i * g (k - i)
theorem cf_head (f g : Nat → Rat) (k : Nat) : cf f g k = f 0 * g k + (if k = 0 then 0 else cf (fun i => f (i + 1)) g (k - 1)) := by
  unfold cf
  rw [sm_head, Nat.sub_zero]
  cases k with
  | zero => rfl
  | succ k =>
    rw [if_neg (by omega)]
    congr 1
    refine sm_congr _ _ _ fun i hi => ?_
    rw [show k + 1 - (i + 1) = k + 1 - 1 - i by omega]
theorem gH_cf (a b : Rat) (g : Nat → Rat) (m : Nat) (hg : ∀ k, m < k → g k = 0) : ∀ (n : Nat) (f : Nat → Rat), (∀ k, n < k → f k = 0) → gH a b (m + n) (cf f g) = gH a b n f * gH a b m g
  | 0, f, hf => by
    have e : cf f g = fun k => f 0 * g k := by
      funext k
      rw [cf, sm_head, sm_zero _ _ (fun i _ => by rw [hf (i + 1) (by omega), Rat.zero_mul]), Rat.add_zero, Nat.sub_zero]
    rw [e, gH_mul]; rfl
  | n + 1, f, hf => by
    have e : cf f g = fun k => (fun k => f 0 * g k) k + (fun k => if k = 0 then 0 else cf (fun i => f (i + 1)) g (k - 1)) k := by funext k; exact cf_head f g k
    rw [e, gH_add, gH_mul, ← Nat.add_assoc, gH_sr, gH_cf a b g m hg n _ (fun k hk => hf _ (by omega)), Nat.add_assoc, gH_tails a b g m hg (n + 1), gH]
    grind
/-! ### products of polynomials -/
theorem rowM_get (x : Rat) (i : Nat) (y q o : List Rat) (k : Nat) : ∀ j, i + j ≤ o.length → (rowM x i y q o j).getD k 0 = o.getD k 0 + (if i ≤ k ∧ k < i + j then x * (y.getD (k - i) 0 * q.getD (k - i) 0) else 0)
  | 0, _ => by rw [rowM, if_neg (by omega), Rat.add_zero]
  | j + 1, h => by
    have ih := fun k => rowM_get x i y q o k j (by omega)
    rw [rowM, set_get0 _ _ _ _ (by rw [rowM_len]; omega)]
    by_cases h1 : i + j = k
    · subst h1
      rw [if_pos rfl, rowM_get x i y q o _ j (by omega), if_neg (by omega), if_pos (by omega), Nat.add_sub_cancel_left]
      grind
    · rw [if_neg h1, rowM_get x i y q o k j (by omega)]
      by_cases h2 : i ≤ k ∧ k < i + j
      · rw [if_pos h2, if_pos (by omega)]
      · rw [if_neg h2, if_neg (by omega)]
theorem chR_cR {n k : Nat} (h : k ≤ n) : (chR n).getD k 0 = cR n k := chR_get h
theorem allM_get {p q : List Rat} (h0 : 0 < p.length) (h1 : 0 < q.length) (k : Nat) : ∀ i, i ≤ p.length → (allM p q i).getD k 0 = sm i (fun j => if j ≤ k then sq p j * sq q (k - j) else 0)
  | 0, _ => repl_get _ _
  | i + 1, hi => by
    rw [allM, rowM_get _ _ _ _ _ _ _ (by rw [allM_len]; omega), allM_get h0 h1 k i (by omega), sm, chR_cR (by omega)]
    congr 1
    by_cases h2 : i ≤ k
    · rw [if_pos h2]
      by_cases h3 : k < i + q.length
      · rw [if_pos ⟨h2, h3⟩, chR_cR (by omega)]; rfl
      · rw [if_neg (by omega), sq_gt (p := q) (by omega), Rat.mul_zero]
    · rw [if_neg h2, if_neg (by omega)]
theorem sq_mul {p q : List Rat} (h0 : 0 < p.length) (h1 : 0 < q.length) (k : Nat) : sq (mulP p q) k = cf (sq p) (sq q) k := by
  have hl := mulP_len p q
  rcases Nat.lt_or_ge k (p.length - 1 + (q.length - 1) + 1) with hk | hk
  · have hc := cR_ne (n := p.length - 1 + (q.length - 1)) (k := k) (by omega)
    have e : sq (mulP p q) k = (allM p q p.length).getD k 0 := by
      unfold sq
      rw [hl, mulP_get hk, chR_cR (by omega), Nat.add_sub_cancel, Rat.div_def, Rat.mul_comm, Rat.mul_assoc, Rat.inv_mul_cancel _ hc, Rat.mul_one]
    rw [e, allM_get h0 h1 k _ (Nat.le_refl _)]
    have hF1 : ∀ i, p.length ≤ i → (fun j => if j ≤ k then sq p j * sq q (k - j) else 0) i = 0 := fun i hi => by
      show (if i ≤ k then sq p i * sq q (k - i) else 0) = 0
      split
      · rw [sq_gt hi, Rat.zero_mul]
      · rfl
    have hF2 : ∀ i, k + 1 ≤ i → (fun j => if j ≤ k then sq p j * sq q (k - j) else 0) i = 0 := fun i hi => if_neg (by omega)
    rw [← sm_ext _ _ hF1 (k + 1), Nat.add_comm, sm_ext _ _ hF2]
    exact sm_congr _ _ _ fun i hi => if_pos (by omega)
  · rw [sq_gt (by omega)]
    refine (sm_zero _ _ fun i hi => ?_).symm
    rcases Nat.lt_or_ge i p.length with h2 | h2
    · rw [sq_gt (p := q) (by omega), Rat.mul_zero]
    · rw [sq_gt h2, Rat.zero_mul]
theorem ev_mul {p q : List Rat} (h0 : 0 < p.length) (h1 : 0 < q.length) (t : Rat) : evP (mulP p q) t = evP p t * evP q t := by
  have hl := mulP_len p q
  rw [ev_gH (by omega), ev_gH h0, ev_gH h1, hl, Nat.add_sub_cancel, Nat.add_comm (p.length - 1), show sq (mulP p q) = cf (sq p) (sq q) from funext (sq_mul h0 h1)]
  exact gH_cf _ _ _ _ (fun k hk => sq_gt (by omega)) _ _ (fun k hk => sq_gt (by omega))
/-! ### binomials once more -/
theorem cR_1 : ∀ (n k : Nat), ((k : Rat) + 1) * cR (n + 1) (k + 1) = ((n : Rat) + 1) * cR n k
  | 0, 0 => by decide +kernel
  | 0, k + 1 => by
    rw [show cR (0 + 1) (k + 1 + 1) = 0 from by unfold cR; rw [chs_gt (by omega)]; rfl, show cR 0 (k + 1) = 0 from by unfold cR; rw [chs_gt (by omega)]; rfl]; grind
  | n + 1, 0 => by
    have h := cR_1 n 0
    have e1 := cR_pas (n + 1) 1
    have e0 : cR (n + 1) 0 = 1 := by unfold cR; rw [chs_zero]; rfl
    have e2 : cR n 0 = 1 := by unfold cR; rw [chs_zero]; rfl
    rw [if_neg (by omega), show 1 - 1 = 0 from rfl] at e1
    rw [show (0 : Nat) + 1 = 1 from rfl] at h ⊢
    rw [e1, e0]
    rw [e2] at h
    push_cast at h ⊢
    grind
  | n + 1, k + 1 => by
    have h1 := cR_1 n k
    have h2 := cR_1 n (k + 1)
    have e1 := cR_pas (n + 1) (k + 1 + 1)
    have e2 := cR_pas n (k + 1)
    rw [if_neg (by omega), show k + 1 + 1 - 1 = k + 1 from rfl] at e1
    rw [if_neg (by omega), show k + 1 - 1 = k from rfl] at e2
    rw [e1]
    push_cast at h1 h2 ⊢
    grind
theorem cR_2 (n k : Nat) : ((n : Rat) + 1 - k) * cR (n + 1) k = ((n : Rat) + 1) * cR n k := by
  cases k with
  | zero =>
    have e0 : cR (n + 1) 0 = 1 := by unfold cR; rw [chs_zero]; rfl
    have e2 : cR n 0 = 1 := by unfold cR; rw [chs_zero]; rfl
    rw [e0, e2]; push_cast; grind
  | succ k =>
    have h1 := cR_1 n k
    have e1 := cR_pas n (k + 1)
    rw [if_neg (by omega), show k + 1 - 1 = k from rfl] at e1
    push_cast at h1 ⊢
    grind
/-! ### one degree more -/
theorem sq_lif {p : List Rat} (h : 0 < p.length) (k : Nat) : sq (lifP p) k = sq p k + (if k = 0 then 0 else sq p (k - 1)) := by
  obtain ⟨n, hn⟩ : ∃ n, p.length = n + 1 := ⟨p.length - 1, by omega⟩
  have hl := lifP_len p
  have hz : ((n : Rat) + 1) ≠ 0 := fun e => by
    have e2 : (((n + 1 : Nat) : Int) : Rat) = 0 := by push_cast; exact e
    have := Rat.intCast_eq_zero_iff.1 e2; omega
  rcases Nat.lt_or_ge k (n + 1 + 1) with hk | hk
  · unfold sq
    rw [hl, lifP_get (by omega), lifV, hn, Nat.add_sub_cancel, Nat.add_sub_cancel]
    have c2 := cR_2 n k
    have e1 : (((n + 1 : Nat) : Int) : Rat) = (n : Rat) + 1 := by push_cast; rfl
    have e2 : ((((n + 1 : Nat) : Int) - (k : Int) : Int) : Rat) = (n : Rat) + 1 - k := by push_cast; rfl
    have e3 : ((k : Int) : Rat) = (k : Rat) := rfl
    rw [e1, e2, e3]
    cases k with
    | zero =>
      rw [if_neg (by omega), if_pos (by omega), if_pos rfl]
      rw [show cR (n + 1) 0 = 1 from by unfold cR; rw [chs_zero]; rfl, show cR n 0 = 1 from by unfold cR; rw [chs_zero]; rfl]
      rw [Rat.div_def]
      have := Rat.mul_inv_cancel _ hz
      push_cast
      grind
    | succ k =>
      have c1 := cR_1 n k
      rw [if_pos (show 0 < k + 1 by omega), if_neg (show ¬ k + 1 = 0 by omega), show k + 1 - 1 = k from rfl]
      have hi := Rat.mul_inv_cancel _ hz
      simp only [Rat.div_def]
      push_cast at c1 c2 ⊢
      by_cases hb : k + 1 < n + 1
      · rw [if_pos hb]; grind
      · rw [if_neg hb, ge_zero (p := p) (k := k + 1) (by omega)]; grind
  · rw [sq_gt (by omega), sq_gt (by omega), if_neg (by omega), sq_gt (by omega)]; exact (Rat.add_zero 0).symm
theorem ev_lif {p : List Rat} (h : 0 < p.length) (t : Rat) : evP (lifP p) t = evP p t := by
  obtain ⟨n, hn⟩ : ∃ n, p.length = n + 1 := ⟨p.length - 1, by omega⟩
  have hl := lifP_len p
  have e : sq (lifP p) = fun k => sq p k + (fun k => if k = 0 then 0 else sq p (k - 1)) k := funext (sq_lif h)
  rw [ev_gH (by omega), ev_gH h, hl, hn, Nat.add_sub_cancel, Nat.add_sub_cancel, e, gH_add, gH_sr, gH_tail _ _ _ _ (sq_gt (by omega))]
  grind
theorem ev_it (t : Rat) : ∀ (k : Nat) (p : List Rat), 0 < p.length → evP (itL k p) t = evP p t
  | 0, _, _ => rfl
  | k + 1, p, h => by rw [itL, ev_it t k (lifP p) (by rw [lifP_len]; omega), ev_lif h]
theorem ev_up {p : List Rat} (h : 0 < p.length) (n : Nat) (t : Rat) : evP (upP p n) t = evP p t := ev_it t _ p h
theorem ev_zip {p q : List Rat} {t : Rat} (h : 0 < p.length) (hl : p.length = q.length) : evP (zipG (· + ·) p q) t = evP p t + evP q t := by
  have hz := zipG_len (· + ·) p q
  rw [ev_fE (by omega), ev_fE h, ev_fE (by omega), hz, ← hl]
  have e := fE_lin (1 - t) t 1 1 (p.length - 1) (fun i => p.getD i 0) (fun i => q.getD i 0)
  rw [Rat.one_mul, Rat.one_mul] at e
  rw [← e]
  refine fE_congr _ _ _ _ _ fun i hi => ?_
  rw [zipG_get (by omega), Rat.one_mul, Rat.one_mul]
/-! ### derivatives -/
def dl (n : Nat) (f : Nat → Rat) (k : Nat) : Rat := ((k : Rat) + 1) * f (k + 1) - ((n : Rat) - k) * f k
theorem sq_dif {p : List Rat} (h : 2 ≤ p.length) (k : Nat) : sq (difP p) k = dl (p.length - 1) (sq p) k := by
  obtain ⟨n, hn⟩ : ∃ n, p.length = n + 2 := ⟨p.length - 2, by omega⟩
  have hl := difP_len (p := p)
  rw [if_neg (by omega)] at hl
  unfold dl
  rcases Nat.lt_or_ge k (n + 1) with hk | hk
  · unfold sq
    have c1 := cR_1 n k
    have c2 := cR_2 n k
    rw [hl, difP_get (by omega), hn]
    rw [show n + 2 - 1 - 1 = n by omega, show n + 2 - 1 = n + 1 by omega]
    push_cast at c1 c2 ⊢
    grind
  · rw [sq_gt (by omega), sq_gt (p := p) (k := k + 1) (by omega)]
    rcases Nat.lt_or_ge k (n + 2) with h2 | h2
    · obtain rfl : k = n + 1 := by omega
      rw [hn, show n + 2 - 1 = n + 1 by omega]; push_cast; grind
    · rw [sq_gt (p := p) (by omega)]; grind
theorem dl_cf (n m : Nat) (f g : Nat → Rat) (k : Nat) : dl (n + m) (cf f g) k = cf (dl n f) g k + cf f (dl m g) k := by
  have e1 : ((k : Rat) + 1) * cf f g (k + 1) = sm (k + 1) (fun i => ((i : Rat) + 1) * f (i + 1) * g (k - i)) + sm (k + 1) (fun i => f i * (((k - i : Nat) : Rat) + 1) * g (k - i + 1)) := by
    have a : ((k : Rat) + 1) * cf f g (k + 1) = sm (k + 1 + 1) (fun i => (i : Rat) * f i * g (k + 1 - i)) + sm (k + 1 + 1) (fun i => f i * ((k + 1 - i : Nat) : Rat) * g (k + 1 - i)) := by
      unfold cf
      rw [← sm_mul, ← sm_add]
      refine sm_congr _ _ _ fun i hi => ?_
      have : ((k + 1 - i : Nat) : Rat) = (k : Rat) + 1 - i := by
        have e : (((k + 1 - i : Nat) : Int) : Rat) = (((k : Int) + 1 - (i : Int) : Int) : Rat) := by congr 1; omega
        push_cast at e
        exact e
      rw [this]; grind
    rw [a]
    congr 1
    · rw [sm_head]
      have : ((0 : Nat) : Rat) * f 0 * g (k + 1 - 0) = 0 := by push_cast; grind
      rw [this, Rat.zero_add]
      refine sm_congr _ _ _ fun i hi => ?_
      rw [show k + 1 - (i + 1) = k - i by omega]; push_cast; rfl
    · rw [sm]
      have : f (k + 1) * ((k + 1 - (k + 1) : Nat) : Rat) * g (k + 1 - (k + 1)) = 0 := by rw [Nat.sub_self]; push_cast; grind
      rw [this, Rat.add_zero]
      refine sm_congr _ _ _ fun i hi => ?_
      rw [show k + 1 - i = k - i + 1 by omega]; push_cast; rfl
  unfold dl
  rw [e1]
  have e2 : (((n + m : Nat) : Rat) - k) * cf f g k = sm (k + 1) (fun i => ((n : Rat) - i) * f i * g (k - i)) + sm (k + 1) (fun i => f i * ((m : Rat) - ((k - i : Nat) : Rat)) * g (k - i)) := by
    unfold cf
    rw [← sm_mul, ← sm_add]
    refine sm_congr _ _ _ fun i hi => ?_
    have : ((k - i : Nat) : Rat) = (k : Rat) - i := by
      have e : (((k - i : Nat) : Int) : Rat) = (((k : Int) - (i : Int) : Int) : Rat) := by congr 1; omega
      push_cast at e
      exact e
    rw [this]; push_cast; grind
  rw [e2]
  unfold cf
  have e3 : sm (k + 1) (fun i => (((i : Rat) + 1) * f (i + 1) - ((n : Rat) - i) * f i) * g (k - i)) = sm (k + 1) (fun i => ((i : Rat) + 1) * f (i + 1) * g (k - i)) + (-1) * sm (k + 1) (fun i => ((n : Rat) - i) * f i * g (k - i)) := by
    rw [← sm_mul, ← sm_add]
    exact sm_congr _ _ _ fun i hi => by grind
  have e4 : sm (k + 1) (fun i => f i * ((((k - i : Nat) : Rat) + 1) * g (k - i + 1) - ((m : Rat) - ((k - i : Nat) : Rat)) * g (k - i))) = sm (k + 1) (fun i => f i * (((k - i : Nat) : Rat) + 1) * g (k - i + 1)) + (-1) * sm (k + 1) (fun i => f i * ((m : Rat) - ((k - i : Nat) : Rat)) * g (k - i)) := by
    rw [← sm_mul, ← sm_add]
    exact sm_congr _ _ _ fun i hi => by grind
  show _ = sm (k + 1) (fun i => (((i : Rat) + 1) * f (i + 1) - ((n : Rat) - i) * f i) * g (k - i)) + sm (k + 1) (fun i => f i * ((((k - i : Nat) : Rat) + 1) * g (k - i + 1) - ((m : Rat) - ((k - i : Nat) : Rat)) * g (k - i)))
  rw [e3, e4]
  grind
theorem sq_zip {p q : List Rat} (hl : p.length = q.length) (k : Nat) : sq (zipG (· + ·) p q) k = sq p k + sq q k := by
  have hz := zipG_len (· + ·) p q
  rcases Nat.lt_or_ge k p.length with h | h
  · unfold sq
    rw [hz, zipG_get h, ← hl]; grind
  · rw [sq_gt (by omega), sq_gt h, sq_gt (p := q) (by omega)]; exact (Rat.add_zero 0).symm
theorem sq_dif0 {p : List Rat} (h : 0 < p.length) (k : Nat) : sq (difP p) k = dl (p.length - 1) (sq p) k := by
  rcases Nat.lt_or_ge p.length 2 with h2 | h2
  · have h1 : p.length = 1 := by omega
    unfold difP dl
    rw [if_pos h2, h1, sq_gt (p := p) (k := k + 1) (by omega), Nat.sub_self]
    rcases Nat.eq_zero_or_pos k with rfl | hk
    · show cR 0 0 * 0 = _
      push_cast; grind
    · rw [sq_gt (p := p) (by omega), sq_gt (by simp; omega)]; grind
  · exact sq_dif h2 k
theorem sq_prod {p q : List Rat} (h0 : 0 < p.length) (h1 : 0 < q.length) (k : Nat) : sq (difP (mulP p q)) k = sq (mulP (difP p) q) k + sq (mulP p (difP q)) k := by
  have hl := mulP_len p q
  have d1 := difP_len (p := p)
  have d2 := difP_len (p := q)
  have d3 : 0 < (difP p).length := by rw [d1]; split <;> omega
  have d4 : 0 < (difP q).length := by rw [d2]; split <;> omega
  rw [sq_dif0 (by omega), sq_mul d3 h1, sq_mul h0 d4, hl, Nat.add_sub_cancel, show sq (mulP p q) = cf (sq p) (sq q) from funext (sq_mul h0 h1), dl_cf, show sq (difP p) = dl (p.length - 1) (sq p) from funext (sq_dif0 h0), show sq (difP q) = dl (q.length - 1) (sq q) from funext (sq_dif0 h1)]
theorem sq_eq0 {p : List Rat} (h : ∀ k, sq p k = 0) (k : Nat) : p.getD k 0 = 0 := by
  rcases Nat.lt_or_ge k p.length with hk | hk
  · have := h k
    unfold sq at this
    have hc := cR_ne (n := p.length - 1) (k := k) (by omega)
    rcases Rat.mul_eq_zero.1 this with e | e
    · exact absurd e hc
    · exact e
  · exact ge_zero hk
theorem zip_zl {u y : List Rat} (hl : u.length = y.length) (h : ∀ k, u.getD k 0 = 0) : zipG (· + ·) u y = y := by
  refine ext0 (by rw [zipG_len, hl]) fun k hk => ?_
  rw [zipG_len] at hk
  rw [zipG_get hk, h k, Rat.zero_add]
theorem zip_zr {u y : List Rat} (hl : u.length = y.length) (h : ∀ k, y.getD k 0 = 0) : zipG (· + ·) u y = u := by
  refine ext0 (by rw [zipG_len]) fun k hk => ?_
  rw [zipG_len] at hk
  rw [zipG_get hk, h k, Rat.add_zero]
theorem sq_zero1 (k : Nat) : sq [0] k = 0 := by
  rcases Nat.eq_zero_or_pos k with rfl | hk
  · show cR 0 0 * 0 = 0
    exact Rat.mul_zero _
  · exact sq_gt hk
theorem cf_zl (f g : Nat → Rat) (h : ∀ k, f k = 0) (k : Nat) : cf f g k = 0 := sm_zero _ _ fun i _ => by rw [h i, Rat.zero_mul]
theorem cf_zr (f g : Nat → Rat) (h : ∀ k, g k = 0) (k : Nat) : cf f g k = 0 := sm_zero _ _ fun i _ => by rw [h (k - i), Rat.mul_zero]
/-- the formal degree of the sum of both products -/
def prN (p q : List Rat) : Nat := if p.length = 1 ∨ q.length = 1 then p.length + q.length - 2 else p.length + q.length - 3
theorem dif_prod {p q : List Rat} (h0 : 0 < p.length) (h1 : 0 < q.length) :
    upP (difP (mulP p q)) (prN p q) = zipG (· + ·) (upP (mulP (difP p) q) (prN p q)) (upP (mulP p (difP q)) (prN p q)) := by
  have hl := mulP_len p q
  have hlu := mulP_len (difP p) q
  have hlv := mulP_len p (difP q)
  have d1 := difP_len (p := p)
  have d2 := difP_len (p := q)
  have d3 := difP_len (p := mulP p q)
  have hs := sq_prod h0 h1
  have d4 : 0 < (difP p).length := by rw [d1]; split <;> omega
  have d5 : 0 < (difP q).length := by rw [d2]; split <;> omega
  unfold prN
  by_cases hp : p.length = 1
  · rw [if_pos (by omega)] at d1
    have hu : ∀ k, sq (mulP (difP p) q) k = 0 := fun k => by
      rw [sq_mul d4 h1]
      refine cf_zl _ _ (fun k => ?_) k
      rw [show difP p = [0] by unfold difP; rw [if_pos (by omega)]]
      exact sq_zero1 k
    have e : difP (mulP p q) = mulP p (difP q) := by
      refine sq_ext ?_ fun k => by rw [hs k, hu k, Rat.zero_add]
      rw [d3, hlv, d2]
      split <;> split <;> omega
    rw [if_pos (.inl hp), e, upP_self (p := mulP (difP p) q) (by omega), zip_zl ?_ (sq_eq0 hu)]
    rw [upP_len]
    · omega
    · rw [hlv, d2]; split <;> omega
  · by_cases hq : q.length = 1
    · rw [if_pos (by omega)] at d2
      have hv : ∀ k, sq (mulP p (difP q)) k = 0 := fun k => by
        rw [sq_mul h0 d5]
        refine cf_zr _ _ (fun k => ?_) k
        rw [show difP q = [0] by unfold difP; rw [if_pos (by omega)]]
        exact sq_zero1 k
      have e : difP (mulP p q) = mulP (difP p) q := by
        refine sq_ext ?_ fun k => by rw [hs k, hv k, Rat.add_zero]
        rw [d3, hlu, d1]
        split <;> split <;> omega
      rw [if_pos (.inr hq), e, upP_self (p := mulP p (difP q)) (by omega), zip_zr ?_ (sq_eq0 hv)]
      rw [upP_len]
      · omega
      · rw [hlu, d1]; split <;> omega
    · rw [if_neg (by omega)] at d1 d2 d3
      rw [if_neg (by omega), upP_self (by omega), upP_self (by omega), upP_self (by omega)]
      refine sq_ext (by rw [zipG_len]; omega) fun k => ?_
      rw [hs k, sq_zip (by omega)]
/-! ### powers -/
def horn (t : Rat) : List Rat → Rat
  | [] => 0
  | x :: l => horn t l * t + x
theorem one_pw : ∀ n : Nat, (1 : Rat) ^ n = 1
  | 0 => Rat.pow_zero 1
  | n + 1 => by rw [Rat.pow_succ, one_pw n, Rat.mul_one]
theorem horn_gH (t : Rat) : ∀ (l : List Rat), 0 < l.length → horn t l = gH 1 t (l.length - 1) (fun k => l.getD k 0)
  | [x], _ => by show 0 * t + x = x; grind
  | x :: y :: l, _ => by
    have := horn_gH t (y :: l) (by simp)
    rw [horn, this]
    show _ = x * 1 ^ (l.length + 1) + t * gH 1 t l.length (fun k => (y :: l).getD k 0)
    rw [one_pw]
    show gH 1 t l.length _ * t + x = _
    grind
theorem horn_drop {t : Rat} {c : List Rat} {k : Nat} (h : k < c.length) : horn t (c.drop k) = horn t (c.drop (k + 1)) * t + c.getD k 0 := by
  rw [List.drop_eq_getElem_cons h, horn, List.getD_eq_getElem?_getD, List.getElem?_eq_getElem h]; rfl
def dfl : List Rat → List Rat
  | x :: y :: r => (y - x) :: dfl (y :: r)
  | _ => []
theorem dfl_len : ∀ p : List Rat, (dfl p).length = p.length - 1
  | [] => rfl
  | [_] => rfl
  | x :: y :: r => by simp [dfl, dfl_len (y :: r)]
theorem dfl_get : ∀ (p : List Rat) (i : Nat), i + 1 < p.length → (dfl p).getD i 0 = p.getD (i + 1) 0 - p.getD i 0
  | [], i, h => by simp at h
  | [_], i, h => by simp at h
  | x :: y :: r, 0, _ => by simp [dfl]
  | x :: y :: r, i + 1, h => by
      have := dfl_get (y :: r) i (by simpa using h)
      simpa [dfl] using this
def dfk : Nat → List Rat → List Rat
  | 0, p => p
  | k + 1, p => dfl (dfk k p)
theorem dfk_len (p : List Rat) : ∀ k, (dfk k p).length = p.length - k
  | 0 => rfl
  | k + 1 => by rw [dfk, dfl_len, dfk_len p k]; omega
def topP (p : List Rat) : List Rat := (List.range p.length).map fun k => (chR (p.length - 1)).getD k 0 * (dfk k p).getD 0 0
theorem topP_len (p : List Rat) : (topP p).length = p.length := by simp [topP]
theorem topP_get {p : List Rat} {k : Nat} (h : k < p.length) : (topP p).getD k 0 = (chR (p.length - 1)).getD k 0 * (dfk k p).getD 0 0 := by
  rw [List.getD_eq_getElem?_getD, List.getElem?_eq_getElem (by rw [topP_len]; exact h)]; simp [topP]
theorem dfk_get (p : List Rat) : ∀ (k i : Nat), i + k < p.length → (dfk k p).getD i 0 = fE (-1) 1 k (fun j => p.getD (i + j) 0)
  | 0, i, _ => rfl
  | k + 1, i, h => by
    have hl := dfk_len p k
    rw [dfk, dfl_get _ _ (by omega), dfk_get p k i (by omega), dfk_get p k (i + 1) (by omega), fE_step]
    have e : (fun j => p.getD (i + 1 + j) 0) = fun j => p.getD (i + (j + 1)) 0 := by funext j; congr 1; omega
    rw [e]; grind
theorem horn_top {p : List Rat} (h : 0 < p.length) (t : Rat) : horn t (topP p) = evP p t := by
  have hl := topP_len p
  rw [horn_gH t _ (by omega), hl, ev_fE h]
  have e := fE_comp 1 t (-1) 1 (p.length - 1) (fun i => p.getD i 0)
  rw [show 1 + t * -1 = 1 - t by grind, Rat.mul_one, fE_gH] at e
  rw [← e]
  have gc : ∀ (n : Nat) (f g : Nat → Rat), (∀ k, k ≤ n → f k = g k) → gH 1 t n f = gH 1 t n g := by
    intro n
    induction n with
    | zero => exact fun f g hh => hh 0 (Nat.le_refl _)
    | succ n ih => exact fun f g hh => by rw [gH, gH, hh 0 (by omega), ih _ _ (fun k hk => hh (k + 1) (by omega))]
  refine gc _ _ _ fun k hk => ?_
  rw [topP_get (by omega), chR_cR hk, dfk_get p k 0 (by omega)]
  simp only [Nat.zero_add]
/-! ### parts -/
end Go.Proofs.YthhdcfhaldcheaaGreat
