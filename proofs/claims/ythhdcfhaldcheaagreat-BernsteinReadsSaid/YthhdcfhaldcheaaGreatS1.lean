/- Signs of the coefficients of products of linear factors. -/
import Derived.Test.YthhdcfhaldcheaaGreatC3
import Derived.Test.YthhdcfhaldcheaaGreatE1
set_option linter.unusedVariables false
set_option linter.unusedSimpArgs false
set_option maxHeartbeats 8000000
set_option maxRecDepth 100000
attribute [local irreducible] Go.Lg.opsL Go.Lg.wpL Go.Lg.thenL Go.Lg.blockL
namespace Go.Proofs.YthhdcfhaldcheaaGreat
open Go.Lg
/-! ### signs of the coefficients of products of linear factors (Descartes) -/
/-- changes of sign in a list of signs, after the last sign s -/
def vrs : Int → List Int → Nat
  | _, [] => 0
  | s, x :: l => (if x * s < 0 then 1 else 0) + vrs (if x ≠ 0 then x else s) l
def vrR (p : List Rat) : Nat := vrs 0 (p.map sgnR)
theorem vrs_le : ∀ (s : Int) (l : List Int), vrs s l ≤ l.length
  | _, [] => Nat.le_refl _
  | s, x :: l => by
    have := vrs_le (if x ≠ 0 then x else s) l
    rw [vrs, List.length_cons]; split <;> omega
/-- the coefficients of (α + β z) times a polynomial, c the coefficient before -/
def lin (α β : Rat) : Rat → List Rat → List Rat
  | c, [] => [β * c]
  | c, x :: l => (β * c + α * x) :: lin α β x l
theorem lin_len (α β : Rat) : ∀ (c : Rat) (l : List Rat), (lin α β c l).length = l.length + 1
  | _, [] => rfl
  | _, x :: l => by simp [lin, lin_len α β x l]
theorem lin_comm (α β γ δ : Rat) : ∀ (l : List Rat) (c c' : Rat), lin α β (δ * c' + γ * c) (lin γ δ c l) = lin γ δ (β * c' + α * c) (lin α β c l)
  | [], c, c' => by simp only [lin]; congr 1 <;> first | grind | (congr 1; grind)
  | x :: l, c, c' => by
    simp only [lin]
    congr 1
    · grind
    · exact lin_comm α β γ δ l x c
theorem lin_comm0 (α β γ δ : Rat) (l : List Rat) : lin α β 0 (lin γ δ 0 l) = lin γ δ 0 (lin α β 0 l) := by
  have h := lin_comm α β γ δ l 0 0
  rw [show δ * 0 + γ * 0 = (0 : Rat) by grind, show β * 0 + α * 0 = (0 : Rat) by grind] at h
  exact h
theorem vrs_skip {s : Int} {l : List Int} : vrs s (0 :: l) = vrs s l := by simp [vrs]
theorem vrs_same {s : Int} {l : List Int} (h : s = 1 ∨ s = -1) : vrs s (s :: l) = vrs s l := by
  rcases h with rfl | rfl <;> simp [vrs]
theorem vrs_opp {s : Int} {l : List Int} (h : s = 1 ∨ s = -1) : vrs s (-s :: l) = 1 + vrs (-s) l := by
  rcases h with rfl | rfl <;> simp [vrs]
theorem vrs_first {x : Int} {l : List Int} (h : x ≠ 0) : vrs 0 (x :: l) = vrs x l := by simp [vrs, h]
/-- Descartes' step, behind the first coefficient that is not 0 -/
theorem desc {a b : Rat} (ha : 0 < a) (hb : 0 < b) : ∀ (l : List Rat) (c : Rat) (s : Int), (s = 1 ∨ s = -1) →
    (sgnR c = s → vrs s (l.map sgnR) + 1 ≤ vrs (-s) ((lin (-a) b c l).map sgnR) ∧ (vrs s (l.map sgnR) + vrs (-s) ((lin (-a) b c l).map sgnR)) % 2 = 1) ∧
    (sgnR c = s ∨ c = 0 → vrs s (l.map sgnR) ≤ vrs s ((lin (-a) b c l).map sgnR) ∧ (vrs s (l.map sgnR) + vrs s ((lin (-a) b c l).map sgnR)) % 2 = 0)
  | [], c, s, hs => by
    have hn : -s = 1 ∨ -s = -1 := by omega
    have key : sgnR c = s → sgnR (b * c) = s := fun h => by
      rcases sgn_cases c with ⟨_, h2⟩ | ⟨h1, h2⟩ | ⟨h1, h2⟩
      · omega
      · rw [← h, h2]; exact sgn_pos (Rat.mul_pos hb h1)
      · rw [← h, h2]; exact sgn_neg (by have := Rat.mul_pos hb (show 0 < -c by grind); grind)
    simp only [lin, List.map_cons, List.map_nil]
    refine ⟨fun h => ?_, fun h => ?_⟩
    · rw [key h]
      have e := vrs_opp (l := []) hn
      rw [Int.neg_neg] at e
      rw [e]; simp [vrs]
    · rcases h with h | h
      · rw [key h, vrs_same hs]; simp [vrs]
      · rw [h, show sgnR (b * 0) = 0 by rw [show b * (0 : Rat) = 0 by grind]; rfl, vrs_skip]; simp [vrs]
  | x :: l, c, s, hs => by
    have hn : -s = 1 ∨ -s = -1 := by omega
    have ih := desc ha hb l x
    simp only [lin, List.map_cons]
    have key : sgnR c = s → sgnR (b * c) = s := fun h => by
      rcases sgn_cases c with ⟨_, h2⟩ | ⟨h1, h2⟩ | ⟨h1, h2⟩
      · omega
      · rw [← h, h2]; exact sgn_pos (Rat.mul_pos hb h1)
      · rw [← h, h2]; exact sgn_neg (by have := Rat.mul_pos hb (show 0 < -c by grind); grind)
    have opp := @vrs_opp (-s)
    simp only [Int.neg_neg] at opp
    by_cases hx0 : x = 0
    · -- the coefficient is 0
      subst hx0
      rw [show b * c + -a * 0 = b * c by grind, sgn_zero, vrs_skip]
      have i2 := (ih s hs).2 (.inr rfl)
      refine ⟨fun h => ?_, fun h => ?_⟩
      · rw [key h, opp hn]; omega
      · rcases h with h | h
        · rw [key h, vrs_same hs]; omega
        · rw [h, show sgnR (b * 0) = 0 by rw [show b * (0 : Rat) = 0 by grind]; rfl, vrs_skip]; omega
    · have hxs : sgnR x = s ∨ sgnR x = -s := by
        rcases sgn_cases x with ⟨h1, _⟩ | ⟨_, h2⟩ | ⟨_, h2⟩
        · exact absurd h1 hx0
        · omega
        · omega
      rcases hxs with hxs | hxs
      · -- the same sign
        rw [hxs, vrs_same hs]
        have i1 := (ih s hs).1 hxs
        have i2 := (ih s hs).2 (.inl hxs)
        generalize hq : sgnR (b * c + -a * x) = q
        have hq3 : q = 0 ∨ q = s ∨ q = -s := by
          rcases sgn_cases (b * c + -a * x) with ⟨_, h2⟩ | ⟨_, h2⟩ | ⟨_, h2⟩ <;> omega
        rcases hq3 with rfl | rfl | rfl
        · rw [vrs_skip, vrs_skip]; exact ⟨fun _ => i1, fun _ => i2⟩
        · rw [vrs_same hs, opp hn]; exact ⟨fun _ => by omega, fun _ => i2⟩
        · rw [vrs_same hn, vrs_opp hs]; exact ⟨fun _ => i1, fun _ => by omega⟩
      · -- the sign changes
        rw [hxs, vrs_opp hs]
        have i1 := (ih (-s) hn).1 hxs
        rw [Int.neg_neg] at i1
        have hq : (sgnR c = s ∨ c = 0) → sgnR (b * c + -a * x) = s := fun h => by
          rcases sgn_cases x with ⟨h1, _⟩ | ⟨h1, h2⟩ | ⟨h1, h2⟩
          · exact absurd h1 hx0
          · have e1 := Rat.mul_pos ha h1
            have hs1 : s = -1 := by omega
            rw [hs1]
            apply sgn_neg
            rcases h with h | h
            · have e2 : c < 0 := by rcases sgn_cases c with ⟨_, g2⟩ | ⟨_, g2⟩ | ⟨g1, g2⟩ <;> first | exact g1 | omega
              have e3 := Rat.mul_pos hb (show 0 < -c by grind)
              grind
            · rw [h]; grind
          · have e1 := Rat.mul_pos ha (show 0 < -x by grind)
            have hs1 : s = 1 := by omega
            rw [hs1]
            apply sgn_pos
            rcases h with h | h
            · have e2 : 0 < c := by rcases sgn_cases c with ⟨_, g2⟩ | ⟨g1, g2⟩ | ⟨_, g2⟩ <;> first | exact g1 | omega
              have e3 := Rat.mul_pos hb e2
              grind
            · rw [h]; grind
        refine ⟨fun h => ?_, fun h => ?_⟩
        · rw [hq (.inl h), opp hn]; omega
        · rw [hq h, vrs_same hs]; omega
theorem vr_lin {a b : Rat} (ha : 0 < a) (hb : 0 < b) : ∀ (l : List Rat), (∃ x ∈ l, x ≠ 0) → vrR l + 1 ≤ vrR (lin (-a) b 0 l) ∧ (vrR l + vrR (lin (-a) b 0 l)) % 2 = 1
  | [], h => by obtain ⟨x, hx, _⟩ := h; cases hx
  | x :: l, h => by
    unfold vrR
    simp only [lin, List.map_cons]
    rw [show b * 0 + -a * x = -(a * x) by grind]
    by_cases hx : x = 0
    · subst hx
      obtain ⟨y, hy, hy0⟩ := h
      have ih := vr_lin ha hb l ⟨y, (by rcases List.mem_cons.1 hy with h | h <;> first | exact absurd h hy0 | exact h), hy0⟩
      unfold vrR at ih
      rw [show -(a * 0) = (0 : Rat) by grind, sgn_zero, vrs_skip, vrs_skip]
      exact ih
    · rcases sgn_cases x with ⟨h1, _⟩ | ⟨h1, h2⟩ | ⟨h1, h2⟩
      · exact absurd h1 hx
      · have := (desc ha hb l x 1 (.inl rfl)).1 h2
        have e := Rat.mul_pos ha h1
        rw [h2, sgn_neg (show -(a * x) < 0 by grind), vrs_first (by omega), vrs_first (by omega)]
        omega
      · have := (desc ha hb l x (-1) (.inr rfl)).1 h2
        have e := Rat.mul_pos ha (show 0 < -x by grind)
        rw [h2, sgn_pos (show 0 < -(a * x) by grind), vrs_first (by omega), vrs_first (by omega)]
        simp only [Int.neg_neg] at this
        omega
theorem mulself (s : Int) : 0 ≤ s * s := by
  rcases Int.le_total 0 s with h | h
  · exact Int.mul_nonneg h h
  · exact Int.mul_nonneg_of_nonpos_of_nonpos h h
theorem vrs_all {s : Int} (hs : s ≠ 0) : ∀ {l : List Int}, (∀ x ∈ l, x = s) → vrs s l = 0
  | [], _ => rfl
  | x :: l, h => by
    rw [h x (List.mem_cons_self ..), vrs, if_pos hs, if_neg (by have := mulself s; omega), vrs_all hs fun y hy => h y (List.mem_cons_of_mem _ hy)]
/-- the scaled coefficients of a product of n factors with a root between 0 and 1, and of others -/
inductive KS : Nat → List Rat → Prop
  | z {s : Int} {l : List Rat} : l ≠ [] → s = 1 ∨ s = -1 → (∀ x ∈ l, sgnR x = s) → KS 0 l
  | r {n : Nat} {l : List Rat} {a b : Rat} : KS n l → 0 < a → 0 < b → KS (n + 1) (lin (-a) b 0 l)
theorem vr_nz {l : List Rat} (h : 0 < vrR l) : ∃ x ∈ l, x ≠ 0 := by
  apply Classical.byContradiction
  intro hn
  have : ∀ {l : List Rat}, (∀ x ∈ l, x = 0) → vrR l = 0 := by
    intro l hl
    induction l with
    | nil => rfl
    | cons x l ih =>
      unfold vrR at ih ⊢
      rw [List.map_cons, hl x (List.mem_cons_self ..), sgn_zero, vrs_skip]
      exact ih fun y hy => hl y (List.mem_cons_of_mem _ hy)
  have := this (l := l) fun x hx => Classical.byContradiction fun h0 => hn ⟨x, hx, h0⟩
  omega
theorem KS.vr {n : Nat} {l : List Rat} (h : KS n l) : n ≤ vrR l ∧ (vrR l + n) % 2 = 0 ∧ ∃ x ∈ l, x ≠ 0 := by
  induction h with
  | @z s l h0 hs h =>
    obtain ⟨x, l', rfl⟩ := List.exists_cons_of_ne_nil h0
    have hx := h x (List.mem_cons_self ..)
    have hv : vrR (x :: l') = 0 := by
      unfold vrR
      rw [List.map_cons, hx, vrs_first (by omega), vrs_all (by omega)]
      intro y hy
      obtain ⟨z, hz, rfl⟩ := List.mem_map.1 hy
      exact h z (List.mem_cons_of_mem _ hz)
    exact ⟨by omega, by omega, x, List.mem_cons_self .., fun e => by rw [e] at hx; rw [sgn_zero] at hx; omega⟩
  | @r n l a b _ ha hb ih =>
    obtain ⟨h1, h2, h3⟩ := ih
    have h := vr_lin ha hb l h3
    exact ⟨by omega, by omega, vr_nz (by omega)⟩
theorem pos_of {a : Rat} (h : sgnR a = 1) : 0 < a := by
  rcases sgn_cases a with ⟨_, e⟩ | ⟨e, _⟩ | ⟨_, e⟩
  · omega
  · exact e
  · omega
theorem neg_of {a : Rat} (h : sgnR a = -1) : a < 0 := by
  rcases sgn_cases a with ⟨_, e⟩ | ⟨_, e⟩ | ⟨e, _⟩
  · omega
  · omega
  · exact e
theorem sgn_add {s : Int} {x y : Rat} (hs : s = 1 ∨ s = -1) (hx : sgnR x = s) (hy : sgnR y = s) : sgnR (x + y) = s := by
  rcases hs with rfl | rfl
  · have h1 := pos_of hx
    have h2 := pos_of hy
    exact sgn_pos (by grind)
  · have h1 := neg_of hx
    have h2 := neg_of hy
    exact sgn_neg (by grind)
theorem sgn_mul {s t : Int} {x y : Rat} (hs : s = 1 ∨ s = -1) (ht : t = 1 ∨ t = -1) (hx : sgnR x = s) (hy : sgnR y = t) : sgnR (x * y) = s * t := by
  rcases hs with rfl | rfl <;> rcases ht with rfl | rfl
  · exact sgn_pos (Rat.mul_pos (pos_of hx) (pos_of hy))
  · have h1 := pos_of hx
    have h2 := neg_of hy
    exact sgn_neg (by have := Rat.mul_pos h1 (show 0 < -y by grind); grind)
  · have h1 := neg_of hx
    have h2 := pos_of hy
    exact sgn_neg (by have := Rat.mul_pos (show 0 < -x by grind) h2; grind)
  · have h1 := neg_of hx
    have h2 := neg_of hy
    exact sgn_pos (by have := Rat.mul_pos (show 0 < -x by grind) (show 0 < -y by grind); grind)
theorem lin_same {s t : Int} {α β : Rat} (hs : s = 1 ∨ s = -1) (ht : (t = 1 ∧ 0 < α ∧ 0 < β) ∨ (t = -1 ∧ α < 0 ∧ β < 0)) : ∀ (l : List Rat) (c : Rat), (sgnR c = s ∨ (c = 0 ∧ l ≠ [])) → (∀ x ∈ l, sgnR x = s) → ∀ x ∈ lin α β c l, sgnR x = t * s := by
  have hab : sgnR α = t ∧ sgnR β = t ∧ (t = 1 ∨ t = -1) := by
    rcases ht with ⟨rfl, ha, hb⟩ | ⟨rfl, ha, hb⟩
    · exact ⟨sgn_pos ha, sgn_pos hb, .inl rfl⟩
    · exact ⟨sgn_neg ha, sgn_neg hb, .inr rfl⟩
  have h1 : ∀ x, sgnR x = s → sgnR (β * x) = t * s ∧ sgnR (α * x) = t * s := fun x hx => ⟨sgn_mul hab.2.2 hs hab.2.1 hx, sgn_mul hab.2.2 hs hab.1 hx⟩
  have hne : t * s = 1 ∨ t * s = -1 := by rcases hs with rfl | rfl <;> rcases ht with ⟨rfl, _⟩ | ⟨rfl, _⟩ <;> simp
  have h2 : ∀ x y : Rat, sgnR x = t * s → sgnR y = t * s → sgnR (x + y) = t * s := fun x y hx hy => sgn_add hne hx hy
  intro l
  induction l with
  | nil =>
    intro c hc _ x hx
    rcases hc with hc | ⟨_, h⟩
    · simp only [lin, List.mem_singleton] at hx
      rw [hx]; exact (h1 c hc).1
    · exact absurd rfl h
  | cons y l ih =>
    intro c hc hl x hx
    have hy := hl y (List.mem_cons_self ..)
    simp only [lin, List.mem_cons] at hx
    rcases hx with rfl | hx
    · rcases hc with hc | ⟨rfl, _⟩
      · exact h2 _ _ (h1 c hc).1 (h1 y hy).2
      · rw [show β * 0 + α * y = α * y by grind]; exact (h1 y hy).2
    · exact ih y (.inl hy) (fun z hz => hl z (List.mem_cons_of_mem _ hz)) x hx
theorem KS.non {n : Nat} {l : List Rat} {α β : Rat} (h : KS n l) (hab : (0 < α ∧ 0 < β) ∨ (α < 0 ∧ β < 0)) : KS n (lin α β 0 l) := by
  induction h with
  | @z s l h0 hs h =>
    have hne : lin α β 0 l ≠ [] := fun e => by have := lin_len α β 0 l; rw [e] at this; simp at this
    rcases hab with ⟨ha, hb⟩ | ⟨ha, hb⟩
    · exact .z (s := 1 * s) hne (by omega) (lin_same hs (.inl ⟨rfl, ha, hb⟩) l 0 (.inr ⟨rfl, h0⟩) h)
    · exact .z (s := -1 * s) hne (by omega) (lin_same hs (.inr ⟨rfl, ha, hb⟩) l 0 (.inr ⟨rfl, h0⟩) h)
  | @r n l a b _ ha hb ih =>
    rw [lin_comm0]
    exact .r ih ha hb
/-! ### the coefficients times binomials -/
def scl (p : List Rat) : List Rat := (List.range p.length).map fun k => (chR (p.length - 1)).getD k 0 * p.getD k 0
theorem scl_len (p : List Rat) : (scl p).length = p.length := by simp [scl]
theorem scl_get {p : List Rat} {k : Nat} (h : k < p.length) : (scl p).getD k 0 = (chR (p.length - 1)).getD k 0 * p.getD k 0 := by
  rw [List.getD_eq_getElem?_getD, List.getElem?_eq_getElem (by rw [scl_len]; exact h)]; simp [scl]
theorem lin_get (α β : Rat) : ∀ (l : List Rat) (c : Rat) (k : Nat), (lin α β c l).getD k 0 = β * (if k = 0 then c else l.getD (k - 1) 0) + α * l.getD k 0
  | [], c, 0 => by simp [lin]; grind
  | [], c, k + 1 => by simp [lin]; grind
  | x :: l, c, 0 => by simp [lin]
  | x :: l, c, k + 1 => by
    have := lin_get α β l x k
    simp only [lin, List.getD_cons_succ, this]
    cases k <;> simp
theorem chR_ne {n k : Nat} (h : k ≤ n) : (chR n).getD k 0 ≠ 0 := by
  rw [chR_get h]
  have := chs_pos h
  exact fun e => by have := Rat.intCast_eq_zero_iff.1 e; omega
theorem chR_pos {n k : Nat} (h : k ≤ n) : 0 < (chR n).getD k 0 := by
  rw [chR_get h]
  have := chs_pos h
  exact Rat.intCast_pos.2 (by omega)
theorem all2 {p : List Rat} {u v : Rat} (h0 : 0 < p.length) (k : Nat) : ∀ i, i ≤ p.length → (allM p [u, v] i).getD k 0 =
    (if k < i then u * ((chR (p.length - 1)).getD k 0 * p.getD k 0) else 0) + (if 0 < k ∧ k - 1 < i then v * ((chR (p.length - 1)).getD (k - 1) 0 * p.getD (k - 1) 0) else 0)
  | 0, _ => by
    rw [if_neg (by omega), if_neg (by omega), allM, List.getD_eq_getElem?_getD, List.getElem?_replicate]
    split <;> (simp; try grind)
  | i + 1, hi => by
    have ih := all2 (u := u) (v := v) h0 k i (by omega)
    have hl := allM_len p [u, v] i
    have e0 : (chR ([u, v].length - 1)).getD 0 0 = 1 := rfl
    have e1 : (chR ([u, v].length - 1)).getD 1 0 = 1 := rfl
    have hll : [u, v].length = 2 := rfl
    rw [hll] at hl
    rw [allM, hll, rowM, rowM, rowM, show [u, v].getD 1 0 = v from rfl, show [u, v].getD 0 0 = u from rfl]
    rw [show (chR (2 - 1)).getD 0 0 = 1 from rfl, show (chR (2 - 1)).getD 1 0 = 1 from rfl]
    rw [set_get0 _ _ _ _ (by rw [List.length_set]; omega), set_get0 _ _ _ _ (by omega), set_get0 _ _ _ _ (by omega), if_neg (show ¬ i + 0 = i + 1 by omega)]
    simp only [Nat.add_zero]
    by_cases h1 : i = k
    · subst h1
      rw [if_neg (show ¬ i < i by omega)] at ih
      rw [if_neg (show ¬ i + 1 = i by omega), if_pos rfl, ih, if_pos (show i < i + 1 by omega)]
      by_cases h2 : 0 < i
      · rw [if_pos (show 0 < i ∧ i - 1 < i by omega), if_pos (show 0 < i ∧ i - 1 < i + 1 by omega)]; grind
      · rw [if_neg (show ¬ (0 < i ∧ i - 1 < i) by omega), if_neg (show ¬ (0 < i ∧ i - 1 < i + 1) by omega)]; grind
    · by_cases h2 : i + 1 = k
      · subst h2
        rw [if_neg (show ¬ i + 1 < i by omega), if_neg (show ¬ (0 < i + 1 ∧ i + 1 - 1 < i) by omega)] at ih
        rw [if_pos rfl, ih, if_neg (show ¬ i + 1 < i + 1 by omega), if_pos (show 0 < i + 1 ∧ i + 1 - 1 < i + 1 by omega), show i + 1 - 1 = i from rfl]; grind
      · rw [if_neg h2, if_neg h1, ih]
        congr 1
        · by_cases h3 : k < i
          · rw [if_pos h3, if_pos (by omega)]
          · rw [if_neg h3, if_neg (by omega)]
        · by_cases h3 : 0 < k ∧ k - 1 < i
          · rw [if_pos h3, if_pos (by omega)]
          · rw [if_neg h3, if_neg (by omega)]
theorem mul2_get {p : List Rat} {u v : Rat} (h0 : 0 < p.length) {k : Nat} (hk : k ≤ p.length) : (allM p [u, v] p.length).getD k 0 = (lin u v 0 (scl p)).getD k 0 := by
  rw [all2 h0 k p.length (Nat.le_refl _), lin_get]
  by_cases h1 : k < p.length
  · rw [if_pos h1, scl_get h1]
    by_cases h2 : k = 0
    · subst h2; rw [if_neg (by omega), if_pos rfl]; grind
    · rw [if_pos (by omega), if_neg h2, scl_get (by omega)]; grind
  · have : k = p.length := by omega
    rw [if_neg h1, if_pos (by omega), if_neg (by omega), scl_get (show k - 1 < p.length by omega), ge_zero (show (scl p).length ≤ k by rw [scl_len]; omega)]; grind
theorem mul2_len {p : List Rat} {u v : Rat} (h0 : 0 < p.length) : (mulP p [u, v]).length = p.length + 1 := by
  rw [mulP_len]; simp; omega
theorem scl_mul {p : List Rat} {u v : Rat} (h0 : 0 < p.length) : scl (mulP p [u, v]) = lin u v 0 (scl p) := by
  have hl := mul2_len (u := u) (v := v) h0
  refine ext0 (by rw [scl_len, hl, lin_len, scl_len]) fun k hk => ?_
  rw [scl_len, hl] at hk
  have e : p.length - 1 + ([u, v].length - 1) = p.length := by simp; omega
  rw [scl_get (by omega), hl, mulP_get (by rw [e]; exact hk), e, ← mul2_get h0 (by omega), show p.length + 1 - 1 = p.length from rfl]
  have := chR_ne (n := p.length) (k := k) (by omega)
  rw [Rat.mul_comm]; exact Rat.div_mul_cancel this
theorem vr_scl (p : List Rat) : vrR (scl p) = vrR p := by
  unfold vrR
  congr 1
  refine List.ext_getElem (by simp [scl_len]) fun k h1 h2 => ?_
  rw [List.length_map] at h1 h2
  rw [List.getElem_map, List.getElem_map]
  have e := scl_get h2
  rw [List.getD_eq_getElem?_getD, List.getElem?_eq_getElem h1] at e
  have e2 : p.getD k 0 = p[k] := by rw [List.getD_eq_getElem?_getD, List.getElem?_eq_getElem h2]; rfl
  rw [e2] at e
  have e3 : (scl p)[k] = (chR (p.length - 1)).getD k 0 * p[k] := e
  rw [e3]
  have hp := chR_pos (n := p.length - 1) (k := k) (by omega)
  rcases sgn_cases p[k] with ⟨g, g2⟩ | ⟨g, g2⟩ | ⟨g, g2⟩
  · rw [g, show (chR (p.length - 1)).getD k 0 * 0 = 0 by grind]
  · rw [g2]; exact sgn_pos (Rat.mul_pos hp g)
  · rw [g2]; exact sgn_neg (by have := Rat.mul_pos hp (show 0 < -p[k] by grind); grind)
theorem mul2_rl {p : List Rat} {u v : Rat} {R : Nat} (h0 : 0 < p.length) (hl : p.length ≤ 40) (hR : 1 ≤ R) (hp : ∀ x ∈ p, rl x ≤ R) (hu : rl u ≤ 3) (hv : rl v ≤ 3) : ∀ x ∈ mulP p [u, v], rl x ≤ 2 * R + 13 := fun x hx => by
  have e : p.length - 1 + ([u, v].length - 1) = p.length := by simp; omega
  rw [mulP, e] at hx
  obtain ⟨k, hk, rfl⟩ := List.mem_map.1 hx
  rw [List.mem_range] at hk
  have hs : ∀ j, rl ((scl p).getD j 0) ≤ R + 2 := fun j => by
    rcases Nat.lt_or_ge j p.length with h | h
    · rw [scl_get h]
      have h1 := rl_mul ((chR (p.length - 1)).getD j 0) (p.getD j 0)
      have h2 := chR_rl (n := p.length - 1) (by omega) _ (getD_mem (i := j) (by rw [chR_len]; omega))
      have h3 := hp _ (getD_mem (i := j) h)
      omega
    · rw [ge_zero (by rw [scl_len]; exact h), show rl 0 = 1 from rfl]; omega
  rw [mul2_get h0 (by omega), lin_get]
  have hy : rl (if k = 0 then 0 else (scl p).getD (k - 1) 0) ≤ R + 2 := by
    split
    · rw [show rl 0 = 1 from rfl]; omega
    · exact hs _
  have h1 := rl_add (v * (if k = 0 then 0 else (scl p).getD (k - 1) 0)) (u * (scl p).getD k 0)
  have h2 := rl_mul v (if k = 0 then 0 else (scl p).getD (k - 1) 0)
  have h3 := rl_mul u ((scl p).getD k 0)
  have h4 := hs k
  have h5 := rl_div (v * (if k = 0 then 0 else (scl p).getD (k - 1) 0) + u * (scl p).getD k 0) ((chR p.length).getD k 0)
  have h6 := chR_rl (n := p.length) (by omega) _ (getD_mem (i := k) (by rw [chR_len]; omega))
  omega
end Go.Proofs.YthhdcfhaldcheaaGreat
