/- Values and parts of polynomials. -/
import Derived.Test.YthhdcfhaldcheaaGreatD1
set_option linter.unusedVariables false
set_option linter.unusedSimpArgs false
set_option maxHeartbeats 8000000
set_option maxRecDepth 100000
attribute [local irreducible] Go.Lg.opsL Go.Lg.wpL Go.Lg.thenL Go.Lg.blockL
namespace Go.Proofs.YthhdcfhaldcheaaGreat
open Go.Lg
end Go.Proofs.YthhdcfhaldcheaaGreat
namespace Go.Lg
/-- a block of the call's own that is not written any more is a list -/
theorem Weak.imm {L : St} {t : Nat} {x y : LV} (bs : List Nat) (h0 : bs.contains 0 = false) (h : L.slot t = x) (hi : Imm (L.frz bs).heap x y) : Weak L ((L.frz bs).put (some t) y) := by
  rintro n W X Z0 a w ⟨hdf, hsz, μ, Z, hc, hr⟩
  obtain ⟨Z1, k1, k2⟩ := hc.widen (frz_le bs h0)
  refine ⟨hdf, hsz, μ, Z1, by rw [put_heap]; exact k1, fun s => ?_⟩
  have hfr : Frame Z μ w w := ⟨fun _ _ => rfl, fun _ id _ c _ _ hh => ⟨c, hh, rfl⟩⟩
  have hs := (hr s).mono k2 (fun _ _ h => h) hfr
  rw [put_slot]
  split
  · rename_i hst
    subst hst
    rw [h] at hs
    exact RepV.of1 (LV.pure_ne_tup hi.lay.2.2) (hi.soundV k1 hs)
  · exact hs
end Go.Lg
namespace Go.Proofs.YthhdcfhaldcheaaGreat
open Go.Lg
theorem sgn_zero : sgnR 0 = 0 := rfl
theorem sgn_pos {a : Rat} (h : 0 < a) : sgnR a = 1 := by unfold sgnR; rw [if_neg (by grind), if_neg (by grind)]
theorem sgn_neg {a : Rat} (h : a < 0) : sgnR a = -1 := by unfold sgnR; rw [if_neg (by grind), if_pos h]
theorem sgn_cases (a : Rat) : (a = 0 ∧ sgnR a = 0) ∨ (0 < a ∧ sgnR a = 1) ∨ (a < 0 ∧ sgnR a = -1) := by
  by_cases h : a = 0
  · exact .inl ⟨h, by rw [h]; rfl⟩
  · by_cases h1 : a < 0
    · exact .inr (.inr ⟨h1, sgn_neg h1⟩)
    · have : 0 < a := by grind
      exact .inr (.inl ⟨this, sgn_pos this⟩)
theorem sgnR_ne {a : Rat} (h : sgnR a ≠ 0) : a ≠ 0 := fun e => h (by rw [e]; rfl)
theorem sgn3 (a : Rat) : sgnR a = 0 ∨ sgnR a = 1 ∨ sgnR a = -1 := by
  rcases sgn_cases a with ⟨_, h⟩ | ⟨_, h⟩ | ⟨_, h⟩ <;> omega
theorem quo64 {a b : Int} (h : b ≠ 0) (h1 : -9223372036854775808 ≤ a.tdiv b) (h2 : a.tdiv b ≤ 9223372036854775807) : binI .quo .i64 a b = some (.int .i64 (a.tdiv b)) := by
  simp only [binI]; rw [if_neg h, IntWalk.i64_in _ ⟨h1, h2⟩]
def rtV (n d : Int) : Rat := ((n % 41 - 20 : Int) : Rat) / ((d % 8 + 1 : Int) : Rat)
theorem rtV_rl (n d : Int) : rl (rtV n d) ≤ 1 := by
  unfold rtV
  have h1 := Int.emod_nonneg n (show (41 : Int) ≠ 0 by decide)
  have h2 := Int.emod_lt_of_pos n (show (0 : Int) < 41 by decide)
  have h3 := Int.emod_nonneg d (show (8 : Int) ≠ 0 by decide)
  have h4 := Int.emod_lt_of_pos d (show (0 : Int) < 8 by decide)
  exact rl_ints (by omega) (by omega)
/-! ### the n-th power of a + b S at 0, S the shift; values and parts -/
def fE (a b : Rat) : Nat → (Nat → Rat) → Rat
  | 0, f => f 0
  | n + 1, f => fE a b n (fun i => a * f i + b * f (i + 1))
theorem fE_congr (a b : Rat) : ∀ (n : Nat) (f g : Nat → Rat), (∀ i, i ≤ n → f i = g i) → fE a b n f = fE a b n g
  | 0, f, g, h => h 0 (Nat.le_refl _)
  | n + 1, f, g, h => fE_congr a b n _ _ fun i hi => by rw [h i (by omega), h (i + 1) (by omega)]
theorem fE_lin (a b c d : Rat) : ∀ (n : Nat) (f g : Nat → Rat), fE a b n (fun i => c * f i + d * g i) = c * fE a b n f + d * fE a b n g
  | 0, f, g => rfl
  | n + 1, f, g => by
    rw [fE, fE, fE, ← fE_lin a b c d n]
    congr 1; funext i; grind
theorem fE_step (a b : Rat) (n : Nat) (f : Nat → Rat) : fE a b (n + 1) f = a * fE a b n f + b * fE a b n (fun i => f (i + 1)) := fE_lin a b a b n f (fun i => f (i + 1))
/-- powers of powers -/
theorem fE_comp (a b u v : Rat) : ∀ (n : Nat) (f : Nat → Rat), fE a b n (fun k => fE u v k f) = fE (a + b * u) (b * v) n f
  | 0, f => rfl
  | n + 1, f => by
    rw [fE_step, fE_comp a b u v n f]
    have e := fE_comp a b u v n (fun i => u * f i + v * f (i + 1))
    have e2 : (fun i => fE u v (i + 1) f) = (fun k => fE u v k (fun i => u * f i + v * f (i + 1))) := rfl
    rw [e2, e, ← fE_lin]
    show fE _ _ n _ = fE _ _ n _
    congr 1; funext i; grind
/-- de Casteljau's scheme on lists -/
theorem lo_fE (t : Rat) : ∀ (k : Nat) (q : List Rat), k < q.length → (loF t q.length q).getD k 0 = fE (1 - t) t k (fun i => q.getD i 0)
  | 0, q, h => by
    obtain ⟨m, hm⟩ : ∃ m, q.length = m + 1 := ⟨q.length - 1, by omega⟩
    rw [hm]; rfl
  | k + 1, q, h => by
    obtain ⟨m, hm⟩ : ∃ m, q.length = m + 1 := ⟨q.length - 1, by omega⟩
    have hs : (stp t q).length = m := by rw [stp_len]; omega
    have := lo_fE t k (stp t q) (by omega)
    rw [hs] at this
    rw [hm, loF, List.getD_cons_succ, this, fE]
    exact fE_congr _ _ _ _ _ fun i hi => stp_get t q i (by omega)
theorem ev_fE {p : List Rat} {t : Rat} (h : 0 < p.length) : evP p t = fE (1 - t) t (p.length - 1) (fun i => p.getD i 0) := lo_fE t _ p (by omega)
theorem fE_last : ∀ (n : Nat) (f : Nat → Rat), fE 0 1 n f = f n
  | 0, f => rfl
  | n + 1, f => by rw [fE, fE_last n]; grind
theorem lo_first {p : List Rat} (h : 0 < p.length) (t : Rat) : (loP p t).getD 0 0 = p.getD 0 0 := by
  obtain ⟨m, hm⟩ : ∃ m, p.length = m + 1 := ⟨p.length - 1, by omega⟩
  unfold loP; rw [hm]; rfl
theorem lo_hi (t : Rat) : ∀ (k : Nat) (q tl : List Rat), q.length = k + 1 → (hiF t (k + 1) q tl).getD 0 0 = (loF t (k + 1) q).getD k 0
  | 0, q, tl, h => by
    match q, h with
    | [x], _ => rfl
  | k + 1, q, tl, h => by
    have := lo_hi t k (stp t q) (q.getD (k + 1) 0 :: tl) (by rw [stp_len]; omega)
    rw [hiF, loF, List.getD_cons_succ]
    exact this
theorem hi_ev {p : List Rat} {t : Rat} (h : 0 < p.length) : (hiP p t).getD 0 0 = evP p t := by
  obtain ⟨k, hk⟩ : ∃ k, p.length = k + 1 := ⟨p.length - 1, by omega⟩
  unfold hiP evP loP
  rw [hk]
  exact lo_hi t k p [] hk
theorem lo_sz {t : Rat} {C M : Nat} (hC : rl (1 - t) + rl t + 1 ≤ C) : ∀ (k : Nat) (q : List Rat), q.length = k → (∀ x ∈ q, (rl x + C) * 2 ^ k ≤ M) → ∀ x ∈ loF t k q, rl x + C ≤ M
  | 0, q, _, _, x, hx => by cases hx
  | k + 1, q, hq, h, x, hx => by
    rw [loF, List.mem_cons] at hx
    rcases hx with rfl | hx
    · exact sz_rl (h _ (getD_mem (by omega)))
    · exact lo_sz hC k (stp t q) (by rw [stp_len]; omega) (stp_sz hC h) x hx
theorem hi_sz {t : Rat} {C M : Nat} (hC : rl (1 - t) + rl t + 1 ≤ C) : ∀ (k : Nat) (q tl : List Rat), q.length = k → (∀ x ∈ q, (rl x + C) * 2 ^ k ≤ M) → (∀ x ∈ tl, rl x + C ≤ M) → ∀ x ∈ hiF t k q tl, rl x + C ≤ M
  | 0, q, tl, hq, _, h2, x, hx => by
    obtain rfl : q = [] := List.eq_nil_of_length_eq_zero hq
    exact h2 x hx
  | k + 1, q, tl, hq, h, h2, x, hx => by
    refine hi_sz hC k (stp t q) _ (by rw [stp_len]; omega) (stp_sz hC h) (fun y hy => ?_) x hx
    rcases List.mem_cons.1 hy with rfl | hy
    · exact sz_rl (h _ (getD_mem (by omega)))
    · exact h2 y hy
theorem HS.lo {p : List Rat} {t : Rat} (h : HS p t) : ∀ x ∈ loP p t, Go.Lg.rl x ≤ 1073741824 := fun x hx => by
  obtain ⟨cc, h1, h2, h3⟩ := h
  have := lo_sz h1 p.length p rfl h3 x hx
  omega
theorem HS.hi {p : List Rat} {t : Rat} (h : HS p t) : ∀ x ∈ hiP p t, Go.Lg.rl x ≤ 1073741824 := fun x hx => by
  obtain ⟨cc, h1, h2, h3⟩ := h
  have := hi_sz h1 p.length p [] rfl h3 (fun y hy => by cases hy) x hx
  omega
theorem HS.ev {p : List Rat} {t : Rat} (h : HS p t) : Go.Lg.rl (evP p t) ≤ 1073741824 := getD_rl (by decide) h.lo _
theorem hs_of {p : List Rat} {t : Rat} (h1 : ∀ x ∈ p, rl x ≤ 1) (h2 : rl t ≤ 1) (h3 : p.length ≤ 25) : HS p t := by
  have h4 := rl_sub 1 t
  rw [show rl 1 = 1 from rfl] at h4
  refine ⟨6, by omega, by decide, fun x hx => ?_⟩
  have h5 := h1 x hx
  have h6 : 2 ^ p.length ≤ 2 ^ 25 := Nat.pow_le_pow_right (by decide) h3
  have h7 := Nat.mul_le_mul (show rl x + 6 ≤ 7 by omega) h6
  exact Nat.le_trans h7 (by decide)
theorem part0 {p : List Rat} (h : 0 < p.length) (a b : Rat) : (partB p a b).getD 0 0 = evP p a := by
  have hl := loP_len p b
  unfold partB
  split
  · rw [lo_first (by rw [hiP_len]; exact h), hi_ev h]
  · rename_i ha
    have e1 : a = 1 := by grind
    subst e1
    split
    · rename_i hb
      rw [hi_ev (by omega), ev_fE (by omega), ev_fE h, hl]
      have e := fE_comp (1 - 1 / b) (1 / b) (1 - b) b (p.length - 1) (fun i => p.getD i 0)
      have hi := Rat.mul_inv_cancel _ hb
      rw [show (1 - 1 / b) + (1 / b) * (1 - b) = 1 - 1 by rw [Rat.div_def]; grind, show 1 / b * b = 1 by rw [Rat.div_def]; grind] at e
      rw [← e]
      exact fE_congr _ _ _ _ _ fun k hk => lo_fE b k p (by omega)
    · rw [getD_rev p h, ev_fE h, show (1 : Rat) - 1 = 0 from by grind, fE_last]; rfl
theorem fE_rev (a b : Rat) : ∀ (n : Nat) (f : Nat → Rat), fE a b n f = fE b a n (fun i => f (n - i))
  | 0, f => rfl
  | n + 1, f => by
    rw [fE_step, fE_step, fE_rev a b n f, fE_rev a b n (fun i => f (i + 1))]
    have e1 : fE b a n (fun i => f (n - i + 1)) = fE b a n (fun i => f (n + 1 - i)) := fE_congr _ _ _ _ _ fun i hi => by congr 1; omega
    have e2 : (fun i => f (n + 1 - (i + 1))) = fun i => f (n - i) := by funext i; congr 1; omega
    rw [e1, e2]; grind
theorem hiF_get (t : Rat) : ∀ (k : Nat) (q tl : List Rat), q.length = k → ∀ j, j < k → (hiF t k q tl).getD j 0 = fE (1 - t) t (k - 1 - j) (fun i => q.getD (j + i) 0)
  | 0, _, _, _, j, h => by omega
  | k + 1, q, tl, hq, j, hj => by
    rw [hiF]
    have hs : (stp t q).length = k := by rw [stp_len]; omega
    rcases Nat.lt_or_ge j k with h | h
    · rw [hiF_get t k _ _ hs j h, show k + 1 - 1 - j = k - 1 - j + 1 by omega, fE]
      exact fE_congr _ _ _ _ _ fun i hi => by rw [stp_get t q _ (by omega)]; rfl
    · obtain rfl : j = k := by omega
      rw [show j + 1 - 1 - j = 0 by omega]
      have hE : ∀ (m : Nat) (q' tl' : List Rat), q'.length = m → ∀ x, (hiF t m q' tl').getD (m + x) 0 = tl'.getD x 0 := by
        intro m
        induction m with
        | zero => intro q' tl' h x; obtain rfl : q' = [] := List.eq_nil_of_length_eq_zero h; rw [Nat.zero_add]; rfl
        | succ m ih =>
          intro q' tl' h x
          rw [hiF, show m + 1 + x = m + (x + 1) by omega, ih _ _ (by rw [stp_len]; omega)]; rfl
      have := hE j (stp t q) (q.getD j 0 :: tl) hs 0
      rw [Nat.add_zero] at this
      rw [this]; rfl
theorem hi_get {p : List Rat} {j : Nat} (h : j < p.length) (t : Rat) : (hiP p t).getD j 0 = fE (1 - t) t (p.length - 1 - j) (fun i => p.getD (j + i) 0) := hiF_get t _ p [] rfl j h
theorem lo_get {p : List Rat} {j : Nat} (h : j < p.length) (t : Rat) : (loP p t).getD j 0 = fE (1 - t) t j (fun i => p.getD i 0) := lo_fE t j p h
/-- a part as the document cuts it -/
def partF (p : List Rat) (a b : Rat) : List Rat := if a = 1 then loP (hiP p.reverse 0) ((1 - b - 0) / (1 - 0)) else loP (hiP p a) ((b - a) / (1 - a))
theorem fE_first : ∀ (n : Nat) (f : Nat → Rat), fE 1 0 n f = f 0
  | 0, f => rfl
  | n + 1, f => by rw [fE, fE_first n]; grind
theorem hi_zero (p : List Rat) : hiP p 0 = p := by
  refine ext0 (hiP_len p 0) fun j hj => ?_
  rw [hiP_len] at hj
  rw [hi_get hj, show (1 : Rat) - 0 = 1 from by grind, fE_first]; rfl
theorem part_eq (p : List Rat) (a b : Rat) : partB p a b = partF p a b := by
  unfold partB partF
  by_cases ha : a = 1
  · subst ha
    rw [if_neg (by grind), if_pos rfl, hi_zero]
    have e0 : (1 - b - 0) / (1 - 0) = 1 - b := by rw [show (1 : Rat) - 0 = 1 by grind, show (1 : Rat) - b - 0 = 1 - b by grind, Rat.div_def, Rat.inv_eq_of_mul_eq_one (show (1 : Rat) * 1 = 1 by grind), Rat.mul_one]
    rw [e0]
    have hr : p.reverse.length = p.length := List.length_reverse
    by_cases hb : b = 0
    · subst hb
      rw [if_neg (by grind)]
      refine ext0 (by rw [loP_len]) fun j hj => ?_
      rw [lo_get hj, show (1 : Rat) - (1 - 0) = 0 by grind, show (1 : Rat) - 0 = 1 by grind, fE_last]
    · rw [if_pos hb]
      refine ext0 (by rw [hiP_len, loP_len, loP_len, hr]) fun j hj => ?_
      rw [hiP_len, loP_len] at hj
      rw [hi_get (by rw [loP_len]; exact hj), loP_len, lo_get (by rw [hr]; exact hj)]
      have e1 : fE (1 - 1 / b) (1 / b) (p.length - 1 - j) (fun i => (loP p b).getD (j + i) 0) = fE (1 - 1 / b) (1 / b) (p.length - 1 - j) (fun k => fE (1 - b) b k (fun i => fE (1 - b) b j (fun x => p.getD (i + x) 0))) := by
        refine fE_congr _ _ _ _ _ fun i hi => ?_
        rw [lo_get (by omega)]
        have hcomp : ∀ (i j : Nat) (f : Nat → Rat), fE (1 - b) b (j + i) f = fE (1 - b) b i (fun y => fE (1 - b) b j (fun x => f (y + x))) := by
          intro i
          induction i with
          | zero => intro j f; show fE (1 - b) b j f = fE (1 - b) b j (fun x => f (0 + x)); simp only [Nat.zero_add]
          | succ i ih =>
            intro j f
            rw [show j + (i + 1) = (j + i) + 1 by omega, fE, ih j, fE]
            refine fE_congr _ _ _ _ _ fun y hy => ?_
            have := fE_lin (1 - b) b (1 - b) b j (fun x => f (y + x)) (fun x => f (y + x + 1))
            rw [this]
            congr 3
            funext x; congr 1; omega
        exact hcomp i j _
      have hi := Rat.mul_inv_cancel _ hb
      rw [e1, fE_comp, show (1 - 1 / b) + (1 / b) * (1 - b) = 0 by rw [Rat.div_def]; grind, show 1 / b * b = 1 by rw [Rat.div_def]; grind, fE_last, fE_rev]
      rw [show (1 : Rat) - (1 - b) = b by grind]
      refine fE_congr _ _ _ _ _ fun i hi => ?_
      rw [getD_rev p (by omega)]
      congr 1; omega
  · rw [if_pos (by grind), if_neg ha]
theorem hs_gen {p : List Rat} {t : Rat} {R n : Nat} (h1 : ∀ x ∈ p, rl x ≤ R) (h2 : rl t ≤ R) (h3 : p.length ≤ n) (h4 : (3 * R + 8) * 2 ^ n ≤ 1073741824) : HS p t := by
  have h5 := rl_sub 1 t
  rw [show rl 1 = 1 from rfl] at h5
  have hp : 1 ≤ 2 ^ n := Nat.one_le_two_pow
  have h9 := Nat.le_trans (Nat.le_mul_of_pos_right (3 * R + 8) hp) h4
  refine ⟨2 * R + 6, by omega, by omega, fun x hx => ?_⟩
  have h6 := h1 x hx
  exact Nat.le_trans (Nat.mul_le_mul (show rl x + (2 * R + 6) ≤ 3 * R + 8 by omega) (Nat.pow_le_pow_right (by decide) h3)) h4
theorem lo_sz2 {p : List Rat} {t : Rat} {R n : Nat} (h1 : ∀ x ∈ p, rl x ≤ R) (h2 : rl t ≤ R) (h3 : p.length ≤ n) : (∀ x ∈ loP p t, rl x ≤ (3 * R + 8) * 2 ^ n) ∧ ∀ x ∈ hiP p t, rl x ≤ (3 * R + 8) * 2 ^ n := by
  have h5 := rl_sub 1 t
  rw [show rl 1 = 1 from rfl] at h5
  have hs : ∀ x ∈ p, (rl x + (2 * R + 6)) * 2 ^ p.length ≤ (3 * R + 8) * 2 ^ n := fun x hx => by
    have h6 := h1 x hx
    exact Nat.mul_le_mul (by omega) (Nat.pow_le_pow_right (by decide) h3)
  exact ⟨fun x hx => by have := lo_sz (C := 2 * R + 6) (by omega) p.length p rfl hs x hx; omega, fun x hx => by have := hi_sz (C := 2 * R + 6) (by omega) p.length p [] rfl hs (fun y hy => by cases hy) x hx; omega⟩
theorem partB_len (p : List Rat) (a b : Rat) : (partB p a b).length = p.length := by
  unfold partB
  split
  · rw [loP_len, hiP_len]
  · split
    · rw [hiP_len, loP_len]
    · simp
def PartO (p : List Rat) (a b : Rat) : Prop := (1 - a ≠ 0 → HS p a ∧ HS (hiP p a) ((b - a) / (1 - a))) ∧ (1 - a = 0 → b ≠ 0 → HS p b ∧ HS (loP p b) (1 / b)) ∧ (a = 1 → HS p.reverse 0 ∧ HS (hiP p.reverse 0) ((1 - b - 0) / (1 - 0)))
theorem part_o {p : List Rat} {a b : Rat} (h1 : ∀ x ∈ p, rl x ≤ 1) (ha : rl a ≤ 1) (hb : rl b ≤ 1) (hl : p.length ≤ 9) : PartO p a b := by
  have e1 := rl_sub 1 a
  have e2 := rl_sub b a
  have e3 := rl_div (b - a) (1 - a)
  have e4 := rl_div 1 b
  have e5 := rl_sub 1 b
  have e6 := rl_sub (1 - b) 0
  have e7 := rl_sub 1 0
  have e8 := rl_div (1 - b - 0) (1 - 0)
  rw [show rl 0 = 1 from rfl] at e6 e7
  rw [show rl 1 = 1 from rfl] at e1 e4 e5 e7
  obtain ⟨s1, s2⟩ := lo_sz2 (R := 1) (n := 9) h1 ha hl
  obtain ⟨s3, s4⟩ := lo_sz2 (R := 1) (n := 9) h1 hb hl
  have hr : ∀ x ∈ p.reverse, rl x ≤ 1 := fun x hx => h1 x (List.mem_reverse.1 hx)
  have hrl : p.reverse.length = p.length := List.length_reverse
  refine ⟨fun _ => ⟨hs_gen (R := 1) (n := 9) h1 ha hl (by decide), hs_gen (R := 5632) (n := 9) s2 (by omega) (by rw [hiP_len]; exact hl) (by decide)⟩, fun _ _ => ⟨hs_gen (R := 1) (n := 9) h1 hb hl (by decide), hs_gen (R := 5632) (n := 9) s3 (by omega) (by rw [loP_len]; exact hl) (by decide)⟩, fun _ => ⟨?_, ?_⟩⟩
  · exact hs_gen (R := 1) (n := 9) hr (Nat.le_refl 1) (by omega) (by decide)
  · rw [hi_zero]
    exact hs_gen (R := 20) (n := 9) (fun x hx => Nat.le_trans (hr x hx) (by decide)) (by omega) (by omega) (by decide)
theorem partO_rl {p : List Rat} {a b : Rat} (h : PartO p a b) (hp' : ∀ x ∈ p, rl x ≤ 1) : ∀ x ∈ partB p a b, rl x ≤ 1073741824 := by
  intro x hx
  unfold partB at hx
  split at hx
  · rename_i ha; exact (h.1 ha).2.lo x hx
  · rename_i ha
    split at hx
    · rename_i hb; exact (h.2.1 (Classical.byContradiction ha) hb).2.hi x hx
    · exact Nat.le_trans (hp' x (List.mem_reverse.1 hx)) (by decide)
end Go.Proofs.YthhdcfhaldcheaaGreat
