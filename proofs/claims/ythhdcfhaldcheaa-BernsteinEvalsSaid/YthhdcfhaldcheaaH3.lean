/- Changes of sign and bounds of parts and of elevated polynomials. -/
import Derived.Test.YthhdcfhaldcheaaH2
set_option linter.unusedVariables false
set_option linter.unusedSimpArgs false
namespace Go.Proofs.Ythhdcfhaldcheaa
open Go.Lg
/-! ### changes of sign do not grow when numbers between neighbours take the places of the inner ones -/
def S3 (x : Int) : Prop := x = 0 ∨ x = 1 ∨ x = -1
theorem s3_sgn (a : Rat) : S3 (sgnR a) := sgn3 a
theorem vrs_z : ∀ {l : List Int}, (∀ x ∈ l, S3 x) → ∀ (s : Int), S3 s → vrs 0 l ≤ vrs s l
  | [], _, _, _ => Nat.le_refl _
  | y :: l, h, s, hs => by
    rcases h y (List.mem_cons_self ..) with rfl | rfl | rfl
    · rw [vrs_skip, vrs_skip]; exact vrs_z (fun x hx => h x (List.mem_cons_of_mem _ hx)) s hs
    · simp [vrs]
    · simp [vrs]
theorem vrs_st {x : Int} (hx : x = 1 ∨ x = -1) : ∀ {l : List Int}, (∀ x ∈ l, S3 x) → ∀ (s : Int), S3 s → vrs s l ≤ (if x * s < 0 then 1 else 0) + vrs x l
  | [], _, _, _ => Nat.zero_le _
  | y :: l, h, s, hs => by
    rcases h y (List.mem_cons_self ..) with rfl | rfl | rfl
    · rw [vrs_skip, vrs_skip]; exact vrs_st hx (fun x hx => h x (List.mem_cons_of_mem _ hx)) s hs
    · rcases hx with rfl | rfl <;> rcases hs with rfl | rfl | rfl <;> (simp [vrs]; try omega)
    · rcases hx with rfl | rfl <;> rcases hs with rfl | rfl | rfl <;> (simp [vrs]; try omega)
theorem vrs_sub {l l' : List Int} (h : l.Sublist l') : (∀ x ∈ l', S3 x) → ∀ (s : Int), S3 s → vrs s l ≤ vrs s l' := by
  induction h with
  | slnil => exact fun _ _ _ => Nat.le_refl _
  | @cons l1 l2 x hsub ih =>
    intro h s hs
    have h2 := fun y hy => h y (List.mem_cons_of_mem _ hy)
    have h1 : ∀ y ∈ l1, S3 y := fun y hy => h2 y (hsub.subset hy)
    rw [vrs]
    rcases h x (List.mem_cons_self ..) with rfl | hx
    · simpa using ih h2 s hs
    · have hx0 : x ≠ 0 := by omega
      rw [if_pos hx0]
      have e1 := vrs_st hx h1 s hs
      have e2 := ih h2 x (.inr hx)
      omega
  | @cons_cons l1 l2 x hsub ih =>
    intro h s hs
    rw [vrs, vrs]
    have := ih (fun y hy => h y (List.mem_cons_of_mem _ hy)) (if x ≠ 0 then x else s) (by split <;> first | exact h x (List.mem_cons_self ..) | exact hs)
    omega
theorem vrs_app {b : List Int} (hb : ∀ x ∈ b, S3 x) : ∀ {a : List Int}, (∀ x ∈ a, S3 x) → ∀ (s : Int), S3 s → vrs s a + vrs 0 b ≤ vrs s (a ++ b)
  | [], _, s, hs => by simpa [vrs] using vrs_z hb s hs
  | x :: a, h, s, hs => by
    have := vrs_app hb (a := a) (fun y hy => h y (List.mem_cons_of_mem _ hy)) (if x ≠ 0 then x else s) (by split <;> first | exact h x (List.mem_cons_self ..) | exact hs)
    rw [List.cons_append, vrs, vrs]
    omega
/-- a list with 0 or the sign before put in somewhere, x the sign ahead -/
inductive Rf : Int → List Int → List Int → Prop
  | nil (x : Int) : Rf x [] []
  | keep {x y : Int} {l l' : List Int} : Rf y l l' → Rf x (y :: l) (y :: l')
  | ins {x c : Int} {l l' : List Int} : c = 0 ∨ c = x → Rf x l l' → Rf x l (c :: l')
theorem Rf.same : ∀ (l : List Int) (x : Int), Rf x l l
  | [], x => .nil x
  | y :: l, _ => .keep (Rf.same l y)
theorem Rf.pre {x : Int} {l l' : List Int} (h : Rf x l l') : ∀ (p : List Int) (z : Int), Rf z (p ++ x :: l) (p ++ x :: l')
  | [], _ => .keep h
  | _ :: p, _ => .keep (h.pre p _)
theorem Rf.vr {x : Int} {l l' : List Int} (h : Rf x l l') : ∀ s, (x ≠ 0 → s = x) → vrs s l' = vrs s l := by
  induction h with
  | nil => exact fun _ _ => rfl
  | @keep x y l l' _ ih =>
    intro s _
    rw [vrs, vrs, ih (if y ≠ 0 then y else s) fun hy => by rw [if_pos hy]]
  | @ins x c l l' hc _ ih =>
    intro s hs
    by_cases h0 : c = 0
    · subst h0; rw [vrs_skip]; exact ih s hs
    · have hcx : c = x := by omega
      subst hcx
      rw [hs h0, vrs, if_pos h0, if_neg (by have := mulself c; omega), Nat.zero_add]
      have := ih c fun _ => rfl
      rw [this]
/-- between two numbers -/
def btw (x c y : Rat) : Prop := sgnR c = 0 ∨ sgnR c = sgnR x ∨ sgnR c = sgnR y
inductive Bt : Rat → List Rat → List Rat → Prop
  | nil (x : Rat) : Bt x [] [x]
  | cons {x c y : Rat} {r cs : List Rat} : btw x c y → Bt y r cs → Bt x (y :: r) (c :: cs)
theorem Bt.mid {x : Rat} {l cs : List Rat} (h : Bt x l cs) (tl : List Rat) : ∃ M : List Rat, Rf (sgnR x) ((l ++ tl).map sgnR) ((M ++ tl).map sgnR) ∧ (cs ++ tl).Sublist (x :: (M ++ tl)) := by
  induction h with
  | nil x => exact ⟨[], Rf.same _ _, List.Sublist.refl _⟩
  | @cons x c y r cs hb _ ih =>
    obtain ⟨M, h1, h2⟩ := ih
    refine ⟨c :: y :: M, ?_, (h2.cons_cons c).cons x⟩
    simp only [List.cons_append, List.map_cons]
    rcases hb with e | e | e
    · exact .ins (.inl e) (.keep h1)
    · exact .ins (.inr e) (.keep h1)
    · rw [e]; exact .keep (.ins (.inr rfl) h1)
theorem s3_map (l : List Rat) : ∀ x ∈ l.map sgnR, S3 x := fun x hx => by
  obtain ⟨a, _, rfl⟩ := List.mem_map.1 hx
  exact s3_sgn a
theorem vr_between {x : Rat} {l cs : List Rat} (h : Bt x l cs) (p tl : List Rat) : vrR (p ++ x :: (cs ++ tl)) ≤ vrR (p ++ x :: (l ++ tl)) := by
  obtain ⟨M, h1, h2⟩ := h.mid tl
  have e1 : vrR (p ++ x :: (cs ++ tl)) ≤ vrR (p ++ x :: x :: (M ++ tl)) :=
    vrs_sub (((h2.cons_cons x).append_left p).map sgnR) (s3_map _) 0 (.inl rfl)
  have h3 : Rf (sgnR x) ((l ++ tl).map sgnR) ((x :: (M ++ tl)).map sgnR) := .ins (.inr rfl) h1
  have e2 := (h3.pre (p.map sgnR) 0).vr 0 (fun h => absurd rfl h)
  have e3 : vrR (p ++ x :: x :: (M ++ tl)) = vrR (p ++ x :: (l ++ tl)) := by
    unfold vrR
    simpa using e2
  omega
theorem Bt.of : ∀ {l : List Rat} {x : Rat} {cs : List Rat}, cs.length = l.length + 1 → (∀ i, i < l.length → btw ((x :: l).getD i 0) (cs.getD i 0) ((x :: l).getD (i + 1) 0)) → cs.getD l.length 0 = (x :: l).getD l.length 0 → Bt x l cs
  | [], x, cs, h, _, h2 => by
    match cs, h with
    | [c], _ =>
      have : c = x := h2
      rw [this]; exact .nil x
  | y :: l, x, cs, h, h1, h2 => by
    match cs, h with
    | c :: cs, h =>
      refine .cons (h1 0 (by simp)) (Bt.of (by simpa using h) (fun i hi => ?_) ?_)
      · exact h1 (i + 1) (by simp; omega)
      · exact h2
theorem btw_mix {x y a b : Rat} (ha : 0 ≤ a) (hb : 0 ≤ b) : btw x (a * x + b * y) y := by
  unfold btw
  have m : ∀ {u v : Rat}, 0 ≤ u → 0 ≤ v → 0 ≤ u * v := fun h1 h2 => Rat.mul_nonneg h1 h2
  rcases sgn_cases (a * x + b * y) with ⟨_, e⟩ | ⟨g, e⟩ | ⟨g, e⟩
  · exact .inl e
  · rcases sgn_cases x with ⟨h1, e1⟩ | ⟨h1, e1⟩ | ⟨h1, e1⟩
    · rcases sgn_cases y with ⟨h2, e2⟩ | ⟨h2, e2⟩ | ⟨h2, e2⟩
      · rw [h1, h2] at g; exfalso; grind
      · exact .inr (.inr (e.trans e2.symm))
      · have := m hb (show 0 ≤ -y by grind); rw [h1] at g; exfalso; grind
    · exact .inr (.inl (e.trans e1.symm))
    · rcases sgn_cases y with ⟨h2, e2⟩ | ⟨h2, e2⟩ | ⟨h2, e2⟩
      · have := m ha (show 0 ≤ -x by grind); rw [h2] at g; exfalso; grind
      · exact .inr (.inr (e.trans e2.symm))
      · have := m ha (show 0 ≤ -x by grind); have := m hb (show 0 ≤ -y by grind); exfalso; grind
  · rcases sgn_cases x with ⟨h1, e1⟩ | ⟨h1, e1⟩ | ⟨h1, e1⟩
    · rcases sgn_cases y with ⟨h2, e2⟩ | ⟨h2, e2⟩ | ⟨h2, e2⟩
      · rw [h1, h2] at g; exfalso; grind
      · have := m hb (show 0 ≤ y by grind); rw [h1] at g; exfalso; grind
      · exact .inr (.inr (e.trans e2.symm))
    · rcases sgn_cases y with ⟨h2, e2⟩ | ⟨h2, e2⟩ | ⟨h2, e2⟩
      · have := m ha (show 0 ≤ x by grind); rw [h2] at g; exfalso; grind
      · have := m ha (show 0 ≤ x by grind); have := m hb (show 0 ≤ y by grind); exfalso; grind
      · exact .inr (.inr (e.trans e2.symm))
    · exact .inr (.inl (e.trans e1.symm))
theorem stp_bt {t : Rat} (h0 : 0 ≤ t) (h1 : t ≤ 1) (x : Rat) (l : List Rat) : Bt x l (stp t (x :: l) ++ [(x :: l).getD l.length 0]) := by
  have hl : (stp t (x :: l)).length = l.length := by rw [stp_len]; rfl
  refine Bt.of (by simp [hl]) (fun i hi => ?_) ?_
  · rw [getD_app1 _ _ _ (by omega), stp_get t _ i (by simp; omega)]
    exact btw_mix (by grind) h0
  · rw [getD_app2 _ _ _ (by omega), hl, Nat.sub_self]; rfl
theorem vr_halves {t : Rat} (h0 : 0 ≤ t) (h1 : t ≤ 1) : ∀ (k : Nat) (q p tl : List Rat), q.length = k → vrR (p ++ loF t k q) + vrR (hiF t k q tl) ≤ vrR (p ++ (q ++ tl))
  | 0, q, p, tl, hq => by
    obtain rfl : q = [] := List.eq_nil_of_length_eq_zero hq
    have := vrs_app (b := tl.map sgnR) (s3_map _) (a := p.map sgnR) (s3_map _) 0 (.inl rfl)
    unfold vrR
    simpa [loF, hiF] using this
  | k + 1, q, p, tl, hq => by
    match q, hq with
    | x :: l, hq =>
      have hk : l.length = k := by simpa using hq
      have ih := vr_halves h0 h1 k (stp t (x :: l)) (p ++ [x]) ((x :: l).getD k 0 :: tl) (by rw [stp_len]; simpa using hq)
      have hb := vr_between (stp_bt h0 h1 x l) p tl
      rw [hk] at hb
      rw [loF, hiF, show (x :: l).getD 0 0 = x from rfl]
      simp only [List.append_assoc, List.singleton_append, List.cons_append, List.nil_append] at ih hb ⊢
      omega
theorem vr_split {t : Rat} (h0 : 0 ≤ t) (h1 : t ≤ 1) (p : List Rat) : vrR (loP p t) + vrR (hiP p t) ≤ vrR p := by
  have := vr_halves h0 h1 p.length p [] [] rfl
  simpa [loP, hiP] using this
theorem frac_ge {a b : Int} (ha : 0 ≤ a) (hb : 0 < b) : (0 : Rat) ≤ (a : Rat) / (b : Rat) := by
  rw [Rat.div_def]
  exact Rat.mul_nonneg (Rat.intCast_nonneg.2 ha) (Rat.le_of_lt (Rat.inv_pos.2 (Rat.intCast_pos.2 hb)))
theorem frac_one {a b c : Int} (hc : 0 < c) (h : a + b = c) : (a : Rat) / (c : Rat) + (b : Rat) / (c : Rat) = 1 := by
  have h1 : (c : Rat) ≠ 0 := fun e => by have := Rat.intCast_eq_zero_iff.1 e; omega
  rw [Rat.div_def, Rat.div_def, ← Rat.add_mul, ← Rat.intCast_add, h, Rat.mul_inv_cancel _ h1]
theorem lif_bt (x : Rat) (l : List Rat) : ∃ cs, lifP (x :: l) = x :: cs ∧ Bt x l cs := by
  have hl := lifP_len (x :: l)
  match hE : lifP (x :: l), hl with
  | c :: cs, hl =>
    have hcs : cs.length = l.length + 1 := by simpa using hl
    have hg : ∀ i, i < l.length + 2 → (c :: cs).getD i 0 = lifV (x :: l) i := fun i hi => by rw [← hE]; exact lifP_get (by simp; omega)
    have hm : ((((x :: l).length : Nat) : Int) : Rat) ≠ 0 := fun e => by have := Rat.intCast_eq_zero_iff.1 e; simp at this; omega
    have h0 : c = x := by
      have := hg 0 (by omega)
      rw [lifV_ft (by omega) (by simp)] at this
      have e : ((((x :: l).length : Nat) : Int) - ((0 : Nat) : Int)) = (((x :: l).length : Nat) : Int) := by omega
      rw [e] at this
      have e2 : ((((x :: l).length : Nat) : Int) : Rat) / ((((x :: l).length : Nat) : Int) : Rat) = 1 := by rw [Rat.div_def, Rat.mul_inv_cancel _ hm]
      rw [e2, Rat.one_mul] at this
      exact this
    refine ⟨cs, by rw [h0], Bt.of hcs (fun i hi => ?_) ?_⟩
    · have := hg (i + 1) (by omega)
      rw [List.getD_cons_succ, lifV_tt (by omega) (by simp; omega)] at this
      rw [this]
      exact btw_mix (frac_ge (by omega) (by simp only [List.length_cons]; omega)) (frac_ge (by simp only [List.length_cons]; omega) (by simp only [List.length_cons]; omega))
    · have := hg (l.length + 1) (by omega)
      rw [List.getD_cons_succ, lifV_tf (by omega) (by simp)] at this
      rw [this, show (((l.length + 1 : Nat) : Int) : Rat) = ((((x :: l).length : Nat) : Int) : Rat) from rfl, Rat.div_def, Rat.mul_inv_cancel _ hm, Rat.one_mul]
      rfl
theorem vr_lif : ∀ (p : List Rat), 0 < p.length → vrR (lifP p) ≤ vrR p
  | x :: l, _ => by
    obtain ⟨cs, e, h⟩ := lif_bt x l
    rw [e]
    simpa using vr_between h [] []
theorem vr_it : ∀ (k : Nat) (p : List Rat), 0 < p.length → vrR (itL k p) ≤ vrR p
  | 0, _, _ => Nat.le_refl _
  | k + 1, p, h => Nat.le_trans (vr_it k (lifP p) (by rw [lifP_len]; omega)) (vr_lif p h)
/-! ### convexity -/
theorem mix_in {m M a b x y : Rat} (ha : 0 ≤ a) (hb : 0 ≤ b) (hab : a + b = 1) (hx : m ≤ x ∧ x ≤ M) (hy : m ≤ y ∧ y ≤ M) : m ≤ a * x + b * y ∧ a * x + b * y ≤ M := by
  have h1 := Rat.mul_nonneg ha (show 0 ≤ x - m by grind)
  have h2 := Rat.mul_nonneg hb (show 0 ≤ y - m by grind)
  have h3 := Rat.mul_nonneg ha (show 0 ≤ M - x by grind)
  have h4 := Rat.mul_nonneg hb (show 0 ≤ M - y by grind)
  have e1 : b = 1 - a := by grind
  subst e1
  constructor <;> grind
def inR (m M : Rat) (l : List Rat) : Prop := ∀ i, i < l.length → m ≤ l.getD i 0 ∧ l.getD i 0 ≤ M
theorem inR_stp {t m M : Rat} (h0 : 0 ≤ t) (h1 : t ≤ 1) {p : List Rat} (h : inR m M p) : inR m M (stp t p) := fun i hi => by
  rw [stp_len] at hi
  rw [stp_get t p i (by omega)]
  exact mix_in (by grind) h0 (by grind) (h i (by omega)) (h (i + 1) (by omega))
theorem inR_cons {m M x : Rat} {l : List Rat} (hx : m ≤ x ∧ x ≤ M) (h : inR m M l) : inR m M (x :: l)
  | 0, _ => hx
  | i + 1, hi => h i (by simpa using hi)
theorem inR_lo {t m M : Rat} (h0 : 0 ≤ t) (h1 : t ≤ 1) : ∀ (k : Nat) (p : List Rat), p.length = k → inR m M p → inR m M (loF t k p)
  | 0, _, _, _ => fun i hi => by simp [loF] at hi
  | k + 1, p, hp, h => inR_cons (h 0 (by omega)) (inR_lo h0 h1 k (stp t p) (by rw [stp_len]; omega) (inR_stp h0 h1 h))
theorem inR_hi {t m M : Rat} (h0 : 0 ≤ t) (h1 : t ≤ 1) : ∀ (k : Nat) (p tl : List Rat), p.length = k → inR m M p → inR m M tl → inR m M (hiF t k p tl)
  | 0, p, tl, hp, _, h2 => by
    obtain rfl : p = [] := List.eq_nil_of_length_eq_zero hp
    exact h2
  | k + 1, p, tl, hp, h, h2 => inR_hi h0 h1 k (stp t p) _ (by rw [stp_len]; omega) (inR_stp h0 h1 h) (inR_cons (h k (by omega)) h2)
theorem inR_lif {m M : Rat} {p : List Rat} (hp : 0 < p.length) (h : inR m M p) : inR m M (lifP p) := fun i hi => by
  rw [lifP_len] at hi
  rw [lifP_get hi]
  have hone := frac_one (a := (i : Int)) (b := (p.length : Int) - (i : Int)) (c := (p.length : Int)) (by omega) (by omega)
  have hf1 := frac_ge (a := (i : Int)) (b := (p.length : Int)) (by omega) (by omega)
  have hf2 := frac_ge (a := (p.length : Int) - (i : Int)) (b := (p.length : Int)) (by omega) (by omega)
  have hm : (((p.length : Nat) : Int) : Rat) ≠ 0 := fun e => by have := Rat.intCast_eq_zero_iff.1 e; omega
  by_cases ha : 0 < i <;> by_cases hb : i < p.length
  · rw [lifV_tt ha hb]; exact mix_in hf1 hf2 hone (h (i - 1) (by omega)) (h i hb)
  · obtain rfl : i = p.length := by omega
    rw [lifV_tf ha hb, Rat.div_def, Rat.mul_inv_cancel _ hm, Rat.one_mul]; exact h _ (by omega)
  · obtain rfl : i = 0 := by omega
    rw [lifV_ft ha hb, show ((p.length : Int) - ((0 : Nat) : Int)) = (p.length : Int) by omega, Rat.div_def, Rat.mul_inv_cancel _ hm, Rat.one_mul]; exact h _ hb
  · omega
theorem inR_it {m M : Rat} : ∀ (k : Nat) (p : List Rat), 0 < p.length → inR m M p → inR m M (itL k p)
  | 0, _, _, h => h
  | k + 1, p, h0, h => inR_it k (lifP p) (by rw [lifP_len]; omega) (inR_lif h0 h)
theorem inR_bnd (p : List Rat) : inR (bndP p).1 (bndP p).2 p := fun i hi => (bk_spec p p.length).1 i hi
theorem ins_bnd {p q : List Rat} (hq : 0 < q.length) (h : inR (bndP p).1 (bndP p).2 q) : insR (bndP q) (bndP p) = true := by
  obtain ⟨⟨i, hi, ei⟩, ⟨j, hj, ej⟩⟩ := (bk_spec q q.length).2 hq
  have e1 : (bndP q).1 = q.getD i 0 := ei
  have e2 : (bndP q).2 = q.getD j 0 := ej
  unfold insR hasR
  rw [e1, e2]
  have h1 := h i hi
  have h2 := h j hj
  rw [decide_eq_true h1.1, decide_eq_true h1.2, decide_eq_true h2.1, decide_eq_true h2.2]; rfl
theorem has_bnd {p : List Rat} {x : Rat} (h : (bndP p).1 ≤ x ∧ x ≤ (bndP p).2) : hasR (bndP p) x = true := by
  unfold hasR; rw [decide_eq_true h.1, decide_eq_true h.2]; rfl
end Go.Proofs.Ythhdcfhaldcheaa
