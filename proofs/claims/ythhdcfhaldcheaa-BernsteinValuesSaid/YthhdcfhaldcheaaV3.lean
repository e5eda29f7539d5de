/- The law BernsteinValues. -/
import Derived.Test.YthhdcfhaldcheaaV2
set_option linter.unusedVariables false
set_option linter.unusedSimpArgs false
namespace Go.Proofs.Ythhdcfhaldcheaa
open Go.Lg
/-! ### the law BernsteinValues: sizes -/
theorem mulP_rl {p q : List Rat} {R : Nat} (h0 : 0 < p.length) (h1 : 0 < q.length) (hpl : p.length ≤ 20) (hql : q.length ≤ 20) (hR : 1 ≤ R) (hp' : ∀ v ∈ p, rl v ≤ R) (hq' : ∀ v ∈ q, rl v ≤ R) : ∀ x ∈ mulP p q, rl x ≤ 404 * (2 * R + 5) := by
  intro x hx
  obtain ⟨k, hk, rfl⟩ := mem_getD hx
  rw [mulP_len] at hk
  rw [mulP_get hk]
  have hc := chR_rl (n := p.length - 1 + (q.length - 1)) (by omega) _ (getD_mem (i := k) (by rw [chR_len]; omega))
  have ha := allM_rl (p := p) (q := q) (R := R) (by omega) (by omega) hR hp' hq' p.length
  have hb : 1 + p.length * (q.length * (2 * R + 5)) ≤ 1 + 400 * (2 * R + 5) := by
    have h2 := Nat.mul_le_mul hpl (Nat.mul_le_mul_right (2 * R + 5) hql)
    have h3 : 20 * (20 * (2 * R + 5)) = 400 * (2 * R + 5) := by omega
    omega
  have h4 := getD_rl (S := 1 + 400 * (2 * R + 5)) (by omega) (fun x hx => Nat.le_trans (ha x hx) hb) k
  have h5 := rl_div ((allM p q p.length).getD k 0) ((chR (p.length - 1 + (q.length - 1))).getD k 0)
  omega
theorem difP_rl {p : List Rat} {R : Nat} (hR : 1 ≤ R) (hl : p.length ≤ 1000) (h : ∀ x ∈ p, rl x ≤ R) : ∀ x ∈ difP p, rl x ≤ 2 * R + 4 := by
  intro x hx
  obtain ⟨k, hk, rfl⟩ := mem_getD hx
  rw [difP_len] at hk
  by_cases h2 : p.length < 2
  · rw [if_pos h2] at hk
    have : difP p = [0] := by unfold difP; rw [if_pos h2]
    rw [this]
    obtain rfl : k = 0 := by omega
    show rl 0 ≤ _
    rw [show rl 0 = 1 from rfl]; omega
  · rw [if_neg h2] at hk
    rw [difP_get (by omega)]
    have h3 := rl_int (n := ((p.length - 1 : Nat) : Int)) (by omega)
    have h4 := h _ (getD_mem (i := k) (by omega))
    have h5 := h _ (getD_mem (i := k + 1) (by omega))
    have h6 := rl_sub (p.getD (k + 1) 0) (p.getD k 0)
    have h7 := rl_mul (((p.length - 1 : Nat) : Int) : Rat) (p.getD (k + 1) 0 - p.getD k 0)
    omega
theorem hs_gen {p : List Rat} {t : Rat} {R n : Nat} (h1 : ∀ x ∈ p, rl x ≤ R) (h2 : rl t ≤ R) (h3 : p.length ≤ n) (h4 : (3 * R + 8) * 2 ^ n ≤ 1073741824) : HS p t := by
  have h5 := rl_sub 1 t
  rw [show rl 1 = 1 from rfl] at h5
  have hp : 1 ≤ 2 ^ n := Nat.one_le_two_pow
  have h9 := Nat.le_trans (Nat.le_mul_of_pos_right (3 * R + 8) hp) h4
  refine ⟨2 * R + 6, by omega, by omega, fun x hx => ?_⟩
  have h6 := h1 x hx
  exact Nat.le_trans (Nat.mul_le_mul (show rl x + (2 * R + 6) ≤ 3 * R + 8 by omega) (Nat.pow_le_pow_right (by decide) h3)) h4
theorem ups_gen {p : List Rat} {n R k : Nat} (h1 : ∀ x ∈ p, rl x ≤ R) (h2 : n + 1 - p.length ≤ k) (h4 : (R + 3) * 2 ^ k ≤ 1073741824) : upS p n := fun x hx =>
  Nat.le_trans (Nat.mul_le_mul (by have := h1 x hx; omega) (Nat.pow_le_pow_right (by decide) h2)) h4
theorem zip_rl {p q : List Rat} {R : Nat} (hp' : ∀ x ∈ p, rl x ≤ R) (hq' : ∀ x ∈ q, rl x ≤ R) (hR : 1 ≤ R) : ∀ x ∈ zipG (· + ·) p q, rl x ≤ 2 * R + 1 := by
  intro x hx
  obtain ⟨i, _, rfl⟩ := List.mem_map.1 hx
  have h1 := getD_rl hR hp' i
  have h2 := getD_rl hR hq' i
  have h3 := rl_add (p.getD i 0) (q.getD i 0)
  show rl (p.getD i 0 + q.getD i 0) ≤ _
  omega
/-- what a part of a polynomial takes -/
def partOK (p : List Rat) (a b : Rat) : Prop := (1 - a ≠ 0 → HS p a ∧ HS (hiP p a) ((b - a) / (1 - a))) ∧ (1 - a = 0 → b ≠ 0 → HS p b ∧ HS (loP p b) (1 / b))
theorem lo_sz2 {p : List Rat} {t : Rat} {R n : Nat} (h1 : ∀ x ∈ p, rl x ≤ R) (h2 : rl t ≤ R) (h3 : p.length ≤ n) : (∀ x ∈ loP p t, rl x ≤ (3 * R + 8) * 2 ^ n) ∧ ∀ x ∈ hiP p t, rl x ≤ (3 * R + 8) * 2 ^ n := by
  have h5 := rl_sub 1 t
  rw [show rl 1 = 1 from rfl] at h5
  have hs : ∀ x ∈ p, (rl x + (2 * R + 6)) * 2 ^ p.length ≤ (3 * R + 8) * 2 ^ n := fun x hx => by
    have h6 := h1 x hx
    exact Nat.mul_le_mul (by omega) (Nat.pow_le_pow_right (by decide) h3)
  exact ⟨fun x hx => by have := lo_sz (C := 2 * R + 6) (by omega) p.length p rfl hs x hx; omega, fun x hx => by have := hi_sz (C := 2 * R + 6) (by omega) p.length p [] rfl hs (fun y hy => by cases hy) x hx; omega⟩
theorem part_ok {p : List Rat} {a b : Rat} (h1 : ∀ x ∈ p, rl x ≤ 1) (ha : rl a ≤ 1) (hb : rl b ≤ 1) (hl : p.length ≤ 9) : partOK p a b := by
  have e1 := rl_sub 1 a
  have e2 := rl_sub b a
  have e3 := rl_div (b - a) (1 - a)
  have e4 := rl_div 1 b
  rw [show rl 1 = 1 from rfl] at e1 e4
  obtain ⟨s1, s2⟩ := lo_sz2 (R := 1) (n := 9) h1 ha hl
  obtain ⟨s3, s4⟩ := lo_sz2 (R := 1) (n := 9) h1 hb hl
  exact ⟨fun _ => ⟨hs_gen (R := 1) (n := 9) h1 ha hl (by decide), hs_gen (R := 5632) (n := 9) s2 (by omega) (by rw [hiP_len]; exact hl) (by decide)⟩, fun _ _ => ⟨hs_gen (R := 1) (n := 9) h1 hb hl (by decide), hs_gen (R := 5632) (n := 9) s3 (by omega) (by rw [loP_len]; exact hl) (by decide)⟩⟩
theorem partB_len (p : List Rat) (a b : Rat) : (partB p a b).length = p.length := by
  unfold partB
  split
  · rw [loP_len, hiP_len]
  · split
    · rw [hiP_len, loP_len]
    · simp
theorem up1_rl {p : List Rat} {n R : Nat} (h0 : 0 < p.length) (hl : p.length ≤ 1000) (hR : 1 ≤ R) (hn : n ≤ p.length) (h : ∀ x ∈ p, rl x ≤ R) : ∀ x ∈ upP p n, rl x ≤ 2 * R + 3 := by
  intro x hx
  unfold upP at hx
  rcases Nat.lt_or_ge n p.length with h1 | h1
  · rw [show n + 1 - p.length = 0 by omega] at hx
    have := h x hx; omega
  · rw [show n + 1 - p.length = 1 by omega] at hx
    obtain ⟨i, hi, rfl⟩ := List.mem_map.1 (show x ∈ lifP p from hx)
    rw [List.mem_range] at hi
    exact lifV_rl (by omega) hR h (by omega)
theorem horn_rl {t : Rat} {R : Nat} : ∀ (l : List Rat), (∀ x ∈ l, rl x ≤ R) → rl (horn t l) ≤ 1 + l.length * (R + rl t + 2)
  | [], _ => by show rl 0 ≤ _; rw [show rl 0 = 1 from rfl]; omega
  | x :: l, h => by
    have ih := horn_rl (t := t) l (fun y hy => h y (List.mem_cons_of_mem _ hy))
    have h1 := h x (List.mem_cons_self ..)
    have h2 := rl_add (horn t l * t) x
    have h3 := rl_mul (horn t l) t
    have h4 : (x :: l).length * (R + rl t + 2) = l.length * (R + rl t + 2) + (R + rl t + 2) := by rw [List.length_cons, Nat.succ_mul]
    show rl (horn t l * t + x) ≤ _
    omega
theorem mxN {a b : Nat} (h : 0 < a) : ∃ n, a ≤ n + 1 ∧ b ≤ n + 1 ∧ (a = n + 1 ∨ b = n + 1) := by
  rcases Nat.lt_or_ge a b with h1 | h1
  · exact ⟨b - 1, by omega, by omega, .inr (by omega)⟩
  · exact ⟨a - 1, by omega, by omega, .inl (by omega)⟩
theorem dfk_sz {p : List Rat} {M n : Nat} (hs : ∀ x ∈ p, (rl x + 1) * 2 ^ n ≤ M) : ∀ k, k ≤ n → ∀ x ∈ dfk k p, (rl x + 1) * 2 ^ (n - k) ≤ M
  | 0, _ => hs
  | k + 1, hk => by
    have ih := dfk_sz hs k (by omega)
    rw [show n - k = n - (k + 1) + 1 by omega] at ih
    exact dfl_sz ih
theorem top_rl {p : List Rat} (h : ∀ x ∈ p, rl x ≤ 1) (hl : p.length ≤ 9) : ∀ x ∈ topP p, rl x ≤ 1027 := by
  intro x hx
  obtain ⟨k, hk, rfl⟩ := mem_getD hx
  rw [topP_len] at hk
  rw [topP_get hk]
  have h1 := chR_rl (n := p.length - 1) (by omega) _ (getD_mem (i := k) (by rw [chR_len]; omega))
  have h2 := dfk_sz (p := p) (M := 1024) (n := 9) (fun x hx => by have := h x hx; omega) k (by omega)
  have h3 := sz_rl (h2 _ (getD_mem (i := 0) (by rw [dfk_len]; omega)))
  have h4 := rl_mul ((chR (p.length - 1)).getD k 0) ((dfk k p).getD 0 0)
  omega
theorem prN_len {p q : List Rat} (h0 : 0 < p.length) (h1 : 0 < q.length) :
    (mulP (difP p) q).length ≤ prN p q + 1 ∧ (mulP p (difP q)).length ≤ prN p q + 1 ∧ ((mulP (difP p) q).length = prN p q + 1 ∨ (mulP p (difP q)).length = prN p q + 1) ∧ prN p q ≤ (mulP (difP p) q).length ∧ prN p q ≤ (mulP p (difP q)).length ∧
    (difP (mulP p q)).length ≤ prN p q + 1 ∧ prN p q ≤ (difP (mulP p q)).length ∧ prN p q ≤ p.length + q.length := by
  have hl := mulP_len p q
  have hlu := mulP_len (difP p) q
  have hlv := mulP_len p (difP q)
  have d1 := difP_len (p := p)
  have d2 := difP_len (p := q)
  have d3 := difP_len (p := mulP p q)
  rw [d1] at hlu
  rw [d2] at hlv
  rw [hl] at d3
  unfold prN
  by_cases hp : p.length < 2
  · by_cases hq : q.length < 2
    · rw [if_pos hp] at hlu; rw [if_pos hq] at hlv; rw [if_pos (by omega)] at d3; rw [if_pos (by omega)]; omega
    · rw [if_pos hp] at hlu; rw [if_neg hq] at hlv; rw [if_neg (by omega)] at d3; rw [if_pos (by omega)]; omega
  · by_cases hq : q.length < 2
    · rw [if_neg hp] at hlu; rw [if_pos hq] at hlv; rw [if_neg (by omega)] at d3; rw [if_pos (by omega)]; omega
    · rw [if_neg hp] at hlu; rw [if_neg hq] at hlv; rw [if_neg (by omega)] at d3; rw [if_neg (by omega)]; omega
theorem up_rl {n : Nat} : ∀ {k : Nat} {p : List Rat}, 0 < p.length → p.length ≤ n + 1 → n ≤ 1000 → n + 1 - p.length ≤ k → (∀ x ∈ p, rl x ≤ 1) → ∀ x ∈ upP p n, rl x ≤ 4 * 2 ^ k := by
  have h : ∀ (j k : Nat) (p : List Rat) (R : Nat), 0 < p.length → p.length + j ≤ 1001 → j ≤ k → (∀ x ∈ p, rl x + 3 ≤ R) → ∀ x ∈ itL j p, rl x + 3 ≤ R * 2 ^ k := by
    intro j
    induction j with
    | zero => exact fun k p R h0 _ _ h x hx => Nat.le_trans (h x hx) (Nat.le_mul_of_pos_right _ (Nat.pow_pos (by decide)))
    | succ j ih =>
      intro k p R h0 hl hk h x hx
      obtain ⟨k', rfl⟩ : ∃ k', k = k' + 1 := ⟨k - 1, by omega⟩
      have := ih k' (lifP p) (2 * R) (by rw [lifP_len]; omega) (by rw [lifP_len]; omega) (by omega) (fun y hy => by
        obtain ⟨i, hi, rfl⟩ := List.mem_map.1 hy
        rw [List.mem_range] at hi
        have h1 := h _ (getD_mem (p := p) (i := 0) h0)
        have h3 := rl_pos (p.getD 0 0)
        have := lifV_rl (R := R - 3) (p := p) (i := i) (by omega) (by omega) (fun x hx => by have := h x hx; omega) (by omega)
        omega) x hx
      rw [Nat.pow_succ]
      have e : 2 * R * 2 ^ k' = R * (2 ^ k' * 2) := by rw [Nat.mul_comm 2 R, Nat.mul_assoc, Nat.mul_comm 2]
      omega
  intro k p h0 hl hn hk h1 x hx
  have := h (n + 1 - p.length) k p 4 h0 (by omega) hk (fun y hy => by have := h1 y hy; omega) x hx
  omega
theorem nfc_BernsteinValues_0 {p : Prop} (h : p := by (try simp only [e1, e2, e3, e4, p1, p2, p3, q1, q2, q3, l1, t0, t1, r1, r2, r3, r4, Nat.zero_add, Nat.reduceMul, Nat.reduceAdd, b1, b2, b3, b4, b5, b6, i1, i2, i3, i4, i5, i6, Nat.reduceBEq, frz_nil, dfq, r1r, ekx, est, List.drop_length, List.drop_zero, kills_map ratE, ratL_kill, spL_kill, LV.kill, kills, dice_kill]); exact rfl) : p := h
theorem clc_BernsteinValues_1 {p : Prop} (h : p := by first | rfl | (simp only [e1, e2, e3, e4, p1, p2, p3, q1, q2, q3, l1, t0, t1, r1, r2, r3, r4, Nat.zero_add, Nat.reduceMul, Nat.reduceAdd, b1, b2, b3, b4, b5, b6, i1, i2, i3, i4, i5, i6, Nat.reduceBEq, frz_nil, dfq, r1r, ekx, est, List.drop_length, List.drop_zero, kills_map ratE, ratL_kill, spL_kill, LV.kill, kills, dice_kill, horn, ratL_zero]; done) | (simp only [e1, e2, e3, e4, p1, p2, p3, q1, q2, q3, l1, t0, t1, r1, r2, r3, r4, Nat.zero_add, Nat.reduceMul, Nat.reduceAdd, b1, b2, b3, b4, b5, b6, i1, i2, i3, i4, i5, i6, Nat.reduceBEq, frz_nil, dfq, r1r, ekx, est, List.drop_length, List.drop_zero, kills_map ratE, ratL_kill, spL_kill, LV.kill, kills, dice_kill, horn, ratL_zero]; rfl) | (simp only [e1, e2, e3, e4, p1, p2, p3, q1, q2, q3, l1, t0, t1, r1, r2, r3, r4, Nat.zero_add, Nat.reduceMul, Nat.reduceAdd, b1, b2, b3, b4, b5, b6, i1, i2, i3, i4, i5, i6, Nat.reduceBEq, frz_nil, dfq, r1r, ekx, est, List.drop_length, List.drop_zero, kills_map ratE, ratL_kill, spL_kill, LV.kill, kills, dice_kill, horn, ratL_zero]; congr 3 <;> omega) | (simp only [e1, e2, e3, e4, p1, p2, p3, q1, q2, q3, l1, t0, t1, r1, r2, r3, r4, Nat.zero_add, Nat.reduceMul, Nat.reduceAdd, b1, b2, b3, b4, b5, b6, i1, i2, i3, i4, i5, i6, Nat.reduceBEq, frz_nil, dfq, r1r, ekx, est, List.drop_length, List.drop_zero, kills_map ratE, ratL_kill, spL_kill, LV.kill, kills, dice_kill, horn, ratL_zero]; congr 2 <;> omega)) : p := h
namespace H_c_BernsteinValues
theorem om {p : Prop} (h : p := by first | (simp only [e1, e2, e3, e4, p1, p2, p3, q1, q2, q3, l1, t0, t1, r1, r2, r3, r4, Nat.zero_add, Nat.reduceMul, Nat.reduceAdd, b1, b2, b3, b4, b5, b6, i1, i2, i3, i4, i5, i6, Nat.reduceBEq, frz_nil, dfq, r1r, ekx, est, List.drop_length, List.drop_zero, kills_map ratE, ratL_kill, spL_kill, LV.kill, kills, dice_kill]; omega) | omega) : p := h
end H_c_BernsteinValues
open H_c_BernsteinValues in
set_option maxHeartbeats 8000000 in
set_option maxRecDepth 100000 in
theorem c_BernsteinValues (l : List Int) (i j : Int) (hl : l.length ≤ 9223372036854775807 ∧ ∀ n ∈ l, -9223372036854775808 ≤ n ∧ n ≤ 9223372036854775807) (hi : -9223372036854775808 ≤ i ∧ i ≤ 9223372036854775807) (hj : -9223372036854775808 ≤ j ∧ j ≤ 9223372036854775807) : CallP Try.prog 9 [.list 1 (l.map i64L), iL i, iL j] (bL true) := by
  have hpl := po_len (l := l) (k := 0) (n := 6) (by decide)
  have hql := po_len (l := l) (k := (poK l 0 6)) (n := 6) (by decide)
  have hpr := po_rl (l := l) (k := 0) (n := 6)
  have hqr := po_rl (l := l) (k := (poK l 0 6)) (n := 6)
  have htr := rtV_rl i j
  have hbr := rtV_rl j i
  have hS : HS (poV l 0 6) (rtV i j) := hs_of hpr htr (by omega)
  have hSq : HS (poV l (poK l 0 6) 6) (rtV i j) := hs_of hqr htr (by omega)
  have hxr := hS.ev
  have hyr := hSq.ev
  have hml := mulP_len (poV l 0 6) (poV l (poK l 0 6) 6)
  have hmr : ∀ x ∈ (mulP (poV l 0 6) (poV l (poK l 0 6) 6)), rl x ≤ 2828 := mulP_rl (R := 1) (by omega) (by omega) (by omega) (by omega) (by decide) hpr hqr
  have hdp := difP_rl (R := 1) (by decide) (by omega) hpr
  have hdq := difP_rl (R := 1) (by decide) (by omega) hqr
  have hdpl := difP_len (p := (poV l 0 6))
  have hdql := difP_len (p := (poV l (poK l 0 6) 6))
  have hdp2 : 0 < (difP (poV l 0 6)).length ∧ (difP (poV l 0 6)).length ≤ (poV l 0 6).length := by rw [hdpl]; split <;> omega
  have hdq2 : 0 < (difP (poV l (poK l 0 6) 6)).length ∧ (difP (poV l (poK l 0 6) 6)).length ≤ (poV l (poK l 0 6) 6).length := by rw [hdql]; split <;> omega
  have hul := mulP_len (difP (poV l 0 6)) (poV l (poK l 0 6) 6)
  have hvl := mulP_len (poV l 0 6) (difP (poV l (poK l 0 6) 6))
  have hur : ∀ x ∈ (mulP (difP (poV l 0 6)) (poV l (poK l 0 6) 6)), rl x ≤ 6868 := mulP_rl (R := 6) (by omega) (by omega) (by omega) (by omega) (by decide) hdp (fun x hx => Nat.le_trans (hqr x hx) (by decide))
  have hvr : ∀ x ∈ (mulP (poV l 0 6) (difP (poV l (poK l 0 6) 6))), rl x ≤ 6868 := mulP_rl (R := 6) (by omega) (by omega) (by omega) (by omega) (by decide) (fun x hx => Nat.le_trans (hpr x hx) (by decide)) hdq
  have hdm0 : 0 < (difP (mulP (poV l 0 6) (poV l (poK l 0 6) 6))).length := by rw [difP_len]; split <;> omega
  have hdm := difP_rl (R := 2828) (by decide) (by omega) hmr
  obtain ⟨n1, n2, n3, n4, n5, n6, n7, n8⟩ := prN_len (p := (poV l 0 6)) (q := (poV l (poK l 0 6) 6)) (by omega) (by omega)
  have hSm : HS (mulP (poV l 0 6) (poV l (poK l 0 6) 6)) (rtV i j) := hs_gen (R := 2828) (n := 13) hmr (by omega) (by omega) (by decide)
  have hUu : upS (mulP (difP (poV l 0 6)) (poV l (poK l 0 6) 6)) (prN (poV l 0 6) (poV l (poK l 0 6) 6)) := ups_gen (R := 6868) (k := 13) hur (by omega) (by decide)
  have hUv : upS (mulP (poV l 0 6) (difP (poV l (poK l 0 6) 6))) (prN (poV l 0 6) (poV l (poK l 0 6) 6)) := ups_gen (R := 6868) (k := 13) hvr (by omega) (by decide)
  have hUd : upS (difP (mulP (poV l 0 6) (poV l (poK l 0 6) 6))) (prN (poV l 0 6) (poV l (poK l 0 6) 6)) := ups_gen (R := 5660) (k := 13) hdm (by omega) (by decide)
  have hur2 := up1_rl (by omega) (by omega) (by decide) n4 hur
  have hvr2 := up1_rl (by omega) (by omega) (by decide) n5 hvr
  have hwl : (zipG (· + ·) (upP (mulP (difP (poV l 0 6)) (poV l (poK l 0 6) 6)) (prN (poV l 0 6) (poV l (poK l 0 6) 6))) (upP (mulP (poV l 0 6) (difP (poV l (poK l 0 6) 6))) (prN (poV l 0 6) (poV l (poK l 0 6) 6)))).length = (prN (poV l 0 6) (poV l (poK l 0 6) 6)) + 1 := by rw [zipG_len, upP_len n1]
  have hwr : ∀ x ∈ (zipG (· + ·) (upP (mulP (difP (poV l 0 6)) (poV l (poK l 0 6) 6)) (prN (poV l 0 6) (poV l (poK l 0 6) 6))) (upP (mulP (poV l 0 6) (difP (poV l (poK l 0 6) 6))) (prN (poV l 0 6) (poV l (poK l 0 6) 6)))), rl x ≤ 27479 := zip_rl hur2 hvr2 (by decide)
  have hUw : upS (zipG (· + ·) (upP (mulP (difP (poV l 0 6)) (poV l (poK l 0 6) 6)) (prN (poV l 0 6) (poV l (poK l 0 6) 6))) (upP (mulP (poV l 0 6) (difP (poV l (poK l 0 6) 6))) (prN (poV l 0 6) (poV l (poK l 0 6) 6)))) (prN (poV l 0 6) (poV l (poK l 0 6) 6)) := ups_gen (R := 27479) (k := 1) hwr (by omega) (by decide)
  obtain ⟨n, m1, m2, m3⟩ := mxN (a := (poV l 0 6).length) (b := (poV l (poK l 0 6) 6).length) (by omega)
  have hUp : upS (poV l 0 6) n := ups_gen (R := 1) (k := 13) hpr (by omega) (by decide)
  have hUq : upS (poV l (poK l 0 6) 6) n := ups_gen (R := 1) (k := 13) hqr (by omega) (by decide)
  have hpr2 := fun k => upP_rl (by omega) (by omega) m1 hUp k
  have hsl : (zipG (· + ·) (upP (poV l 0 6) n) (upP (poV l (poK l 0 6) 6) n)).length = n + 1 := by rw [zipG_len, upP_len m1]
  have hup7 : ∀ (p : List Rat), 0 < p.length → p.length ≤ n + 1 → (∀ x ∈ p, rl x ≤ 1) → ∀ x ∈ upP p n, rl x ≤ 4096 := fun p h0 h1 h2 => up_rl (k := 10) h0 h1 (by omega) (by omega) h2
  have hsr : ∀ x ∈ (zipG (· + ·) (upP (poV l 0 6) n) (upP (poV l (poK l 0 6) 6) n)), rl x ≤ 8193 := zip_rl (hup7 _ (by omega) m1 hpr) (hup7 _ (by omega) m2 hqr) (by decide)
  have hSs : HS (zipG (· + ·) (upP (poV l 0 6) n) (upP (poV l (poK l 0 6) 6) n)) (rtV i j) := hs_gen (R := 8193) (n := 7) hsr (by omega) (by omega) (by decide)
  have hsv := hSs.ev
  have hmv := hSm.ev
  have htpl := topP_len (poV l 0 6)
  have htpr := top_rl hpr (by omega)
  have hpo := part_ok (a := (rtV i j)) (b := (rtV j i)) hpr htr hbr (by omega)
  have hbl := partB_len (poV l 0 6) (rtV i j) (rtV j i)
  have hxy := rl_add (evP (poV l 0 6) (rtV i j)) (evP (poV l (poK l 0 6) 6) (rtV i j))
  have hp0 := part0 (p := (poV l 0 6)) (by omega) (rtV i j) (rtV j i)
  have hht := horn_top (p := (poV l 0 6)) (by omega) (rtV i j)
  refine callP_of fol Try.func9 rfl (by decide +kernel) (by decide +kernel) (Nat.le_of_ble_eq_true rfl) tm0 ?_
  have ekx : True := trivial
  have est : True := trivial
  refine wl_seq (wl_reg (asg ?_))
  refine st_end nfc_BernsteinValues_0 ?_
  refine then_n (wl_seq (wl_seq (wl_reg (mv ?_))))
  refine st_callP rfl (.cons im0 .nil) (c_Light l (by omega)) ?_
  refine st_pure rfl (.not rfl) ?_
  refine st_end nfc_BernsteinValues_0 ?_
  refine then_n ?_
  refine wl_cond rfl (fun h25 => ?_) (fun h25 => ?_)
  · skip
    have h25r := h25
    try simp only [hce, l1, t0, t1, dflt, val_dig] at h25
    refine wl_seq (wl_reg ?_)
    refine st_callP rfl .nil (c_awake5) ?_
    refine asg ?_
    refine st_end nfc_BernsteinValues_0 ?_
    refine then_n (wl_ret (then_r ?_))
    exact ret1 rfl (by first | exact .pure rfl | exact .pure (limL_pure _) | exact .pure (magL_pure _) | exact .pure (ratE.pure _) | exact .pure (pure_lst u32E _ _) | exact .pure (pure_lst ratE _ _))
  · skip
    have h25r := h25
    try simp only [hce, l1, t0, t1, dflt, val_dig] at h25
    refine wl_skip (then_n (wl_seq (wl_reg (mv ?_))))
    refine st_call1 [] rfl rfl (.cons im0 .nil) (c_Roll l) (dice_pure l 0) rfl ?_
    refine asg ?_
    refine st_end nfc_BernsteinValues_0 ?_
    refine then_n (wl_seq ?_)
    have hK := poK_le (l := l) (k := 0) (n := 6) (by omega) (by omega)
    refine wl_reg (mv ?_)
    refine st_callMp 1000449 rfl rfl rfl (dice_pure l _) (.cons .ptr (.cons (.imm (.pure rfl)) .nil)) .ptr (c_Poly l 0 6 (by omega) (by omega) (by decide) (by decide)) rfl (dice_pure l _) (pure_lst ratE _ _) ?_
    refine mv ?_
    refine st_callMp 1000449 rfl rfl rfl (dice_pure l _) (.cons .ptr (.cons (.imm (.pure rfl)) .nil)) .ptr (c_Poly l (poK l 0 6) 6 (by omega) (by omega) (by decide) (by decide)) rfl (dice_pure l _) (pure_lst ratE _ _) ?_
    refine asg (asg ?_)
    refine st_end nfc_BernsteinValues_0 ?_
    refine then_n (wl_seq (wl_reg (mv (mv ?_))))
    refine st_callP rfl (.cons im0 (.cons im0 .nil)) (c_MRat i j hi hj) ?_
    refine st_alloc rfl rfl (.alloc Z34a) ?_
    refine st_store rfl sr34 ?_
    refine st_end nfc_BernsteinValues_0 ?_
    refine then_n (wl_seq ?_)
    refine wl_regD 8 (by decide +kernel) ?_
    refine mv ?_
    refine st_pure rfl ld34 ?_
    refine st_callP rfl (.cons im0 (.cons im0 .nil)) (c_BEval (poV l 0 6) (rtV i j) hS (by omega)) ?_
    refine mv ?_
    refine st_pure rfl ld34 ?_
    refine st_callP rfl (.cons im0 (.cons im0 .nil)) (c_BEval (poV l (poK l 0 6) 6) (rtV i j) hSq (by omega)) ?_
    refine st_alloc rfl rfl (.alloc Z34a) ?_
    refine st_alloc rfl rfl (.alloc Z34a) ?_
    refine st_store rfl sr34 ?_
    refine st_store rfl sr34 ?_
    refine st_end nfc_BernsteinValues_0 ?_
    refine then_n (wl_seq ?_)
    refine wl_regW (Weak.kill _ 1000449) ?_
    refine mv (mv ?_)
    refine st_callP rfl (.cons im0 (.cons im0 .nil)) (c_BMul (poV l 0 6) (poV l (poK l 0 6) 6) 1 (by omega) (by omega) (by omega) (by decide) (by decide) hpr hqr) ?_
    refine mv ?_
    refine st_pure rfl (.extract rfl rfl nt0) ?_
    refine st_pure rfl (.extract rfl rfl nt0) ?_
    refine asg (asg ?_)
    refine st_end nfc_BernsteinValues_0 ?_
    refine then_n (wl_seq (wl_reg (mv ?_)))
    refine st_callP rfl (.cons im0 .nil) (c_Diff (poV l 0 6) (by omega) (fun x hx => Nat.le_trans (hpr x hx) (by decide))) ?_
    refine mv ?_
    refine st_callP rfl (.cons im0 (.cons im0 .nil)) (c_BMul (difP (poV l 0 6)) (poV l (poK l 0 6) 6) 6 (by omega) (by omega) (by omega) (by decide) (by decide) hdp (fun x hx => Nat.le_trans (hqr x hx) (by decide))) ?_
    refine mv ?_
    refine st_pure rfl (.extract rfl rfl nt0) ?_
    refine st_pure rfl (.extract rfl rfl nt0) ?_
    refine asg (asg ?_)
    refine st_end nfc_BernsteinValues_0 ?_
    refine then_n (wl_seq (wl_reg (mv (mv ?_))))
    refine st_callP rfl (.cons im0 .nil) (c_Diff (poV l (poK l 0 6) 6) (by omega) (fun x hx => Nat.le_trans (hqr x hx) (by decide))) ?_
    refine st_callP rfl (.cons im0 (.cons im0 .nil)) (c_BMul (poV l 0 6) (difP (poV l (poK l 0 6) 6)) 6 (by omega) (by omega) (by omega) (by decide) (by decide) (fun x hx => Nat.le_trans (hpr x hx) (by decide)) hdq) ?_
    refine mv ?_
    refine st_pure rfl (.extract rfl rfl nt0) ?_
    refine st_pure rfl (.extract rfl rfl nt0) ?_
    refine asg (asg ?_)
    refine st_end nfc_BernsteinValues_0 ?_
    refine then_n (wl_seq (wl_seq (wl_reg (mv ?_))))
    refine st_pure rfl (.bin rfl rfl rfl) ?_
    refine mv ?_
    refine st_pure (guardX (v := false) rfl rfl ((by decide)) rfl) (.move _) ?_
    refine st_pure (guardX (v := false) rfl rfl ((by decide)) rfl) (.bin rfl rfl rfl) ?_
    refine st_pure rfl (.pickF rfl ((by decide))) ?_
    refine mv ?_
    refine st_pure (guardX (v := false) rfl rfl ((by decide)) rfl) (.move _) ?_
    refine st_pure (guardX (v := false) rfl rfl ((by decide)) rfl) (.bin rfl rfl rfl) ?_
    refine st_pure rfl (.pickF rfl ((by decide))) ?_
    refine st_end nfc_BernsteinValues_0 ?_
    refine then_n ?_
    refine wl_condY (b := _) rfl (by decide) ?_
    refine wl_skip (then_n (wl_seq (wl_reg ?_)))
    refine st_alloc rfl rfl (.alloc Z34a) ?_
    refine st_end nfc_BernsteinValues_0 ?_
    refine then_n (wl_seq (wl_reg (mv ?_)))
    refine st_callP rfl (.cons im0 .nil) (c_Top (poV l 0 6) (by omega) (by omega) (fun x hx => Nat.le_trans (Nat.mul_le_mul (show rl x + 1 ≤ 2 by have := hpr x hx; omega) (Nat.pow_le_pow_right (n := 2) (by decide) (show (poV l 0 6).length ≤ 7 by omega))) (by decide))) ?_
    refine asg ?_
    refine st_end nfc_BernsteinValues_0 ?_
    refine then_n (wl_seq (wl_seq (wl_reg (mv ?_))))
    refine st_pure rfl ln25 ?_
    refine st_pure rfl (.bin rfl rfl (sub64 om om)) ?_
    refine asg ?_
    refine st_end nfc_BernsteinValues_0 ?_
    refine then_n (wl_block ?_)
    refine wl_loop (α := Nat) (fun st L => ((((((((((((((St.mk L.slot (hp [(10, ⟨3, [ratL (rtV i j)], true⟩), (11, ⟨3, [ratL (evP (poV l 0 6) (rtV i j))], true⟩), (12, ⟨3, [ratL (evP (poV l (poK l 0 6) 6) (rtV i j))], true⟩), (19, ⟨3, [ratL (horn (rtV i j) ((topP (poV l 0 6)).drop st))], true⟩)])).put (some 1) (iL i)).put (some 2) (iL j)).put (some 8) (.list 3 ((poV l 0 6).map ratL))).put (some 9) (.list 3 ((poV l (poK l 0 6) 6).map ratL))).put (some 10) (.eptr 10 3 0 0)).put (some 11) (.eptr 11 3 0 0)).put (some 12) (.eptr 12 3 0 0)).put (some 13) (.list 3 ((mulP (poV l 0 6) (poV l (poK l 0 6) 6)).map ratL))).put (some 15) (.list 3 ((mulP (difP (poV l 0 6)) (poV l (poK l 0 6) 6)).map ratL))).put (some 17) (.list 3 ((mulP (poV l 0 6) (difP (poV l (poK l 0 6) 6))).map ratL))).put (some 19) (.eptr 19 3 0 0)).put (some 20) (.list 3 ((topP (poV l 0 6)).map ratL))).put (some 21) (iL ((st : Int) - 1)))) (fun st => st ≤ (poV l 0 6).length) (fun st => st) (topP (poV l 0 6)).length (show ((topP (poV l 0 6)).length) ≤ (poV l 0 6).length from Nat.le_of_eq htpl) ⟨_, Weak.of_eq (put_id' (put_id' (put_id' (put_id' (put_id' (put_id' (put_id' (put_id' (put_id' (put_id' (put_id' (put_id' (put_id' (mk_id' clc_BernsteinValues_1) clc_BernsteinValues_1) clc_BernsteinValues_1) clc_BernsteinValues_1) clc_BernsteinValues_1) clc_BernsteinValues_1) clc_BernsteinValues_1) clc_BernsteinValues_1) clc_BernsteinValues_1) clc_BernsteinValues_1) clc_BernsteinValues_1) clc_BernsteinValues_1) clc_BernsteinValues_1) clc_BernsteinValues_1)⟩ ?_
    rintro k L1 hLC
    have hk : k ≤ (poV l 0 6).length := hLC
    clear hLC
    show wpL _ _ _ ((((((((((((((St.mk L1.slot (hp [(10, ⟨3, [ratL (rtV i j)], true⟩), (11, ⟨3, [ratL (evP (poV l 0 6) (rtV i j))], true⟩), (12, ⟨3, [ratL (evP (poV l (poK l 0 6) 6) (rtV i j))], true⟩), (19, ⟨3, [ratL (horn (rtV i j) ((topP (poV l 0 6)).drop k))], true⟩)])).put (some 1) (iL i)).put (some 2) (iL j)).put (some 8) (.list 3 ((poV l 0 6).map ratL))).put (some 9) (.list 3 ((poV l (poK l 0 6) 6).map ratL))).put (some 10) (.eptr 10 3 0 0)).put (some 11) (.eptr 11 3 0 0)).put (some 12) (.eptr 12 3 0 0)).put (some 13) (.list 3 ((mulP (poV l 0 6) (poV l (poK l 0 6) 6)).map ratL))).put (some 15) (.list 3 ((mulP (difP (poV l 0 6)) (poV l (poK l 0 6) 6)).map ratL))).put (some 17) (.list 3 ((mulP (poV l 0 6) (difP (poV l (poK l 0 6) 6))).map ratL))).put (some 19) (.eptr 19 3 0 0)).put (some 20) (.list 3 ((topP (poV l 0 6)).map ratL))).put (some 21) (iL ((k : Int) - 1)))
    refine wl_seq (wl_seq (wl_reg (mv ?_)))
    refine st_pure rfl (.bin rfl rfl rfl) ?_
    refine st_end nfc_BernsteinValues_0 ?_
    refine then_n ?_
    refine wl_cond rfl (fun h78 => ?_) (fun h78 => ?_)
    · skip
      have h78r := h78
      try simp only [hce, l1, t0, t1, dflt, val_dig] at h78
      obtain ⟨e, rfl⟩ : ∃ e, k = e + 1 := ⟨k - 1, by omega⟩
      have ekx : (((e + 1 : Nat) : Int) - 1) = (e : Int) := by omega
      have est := horn_drop (t := (rtV i j)) (c := topP (poV l 0 6)) (k := e) (by omega)
      have hr1 := horn_rl (t := (rtV i j)) ((topP (poV l 0 6)).drop (e + 1)) (fun x hx => htpr x (List.mem_of_mem_drop hx))
      rw [List.length_drop] at hr1
      have hr2 := htpr _ (getD_mem (i := e) (by omega))
      have hr3 := rl_mul (horn (rtV i j) ((topP (poV l 0 6)).drop (e + 1))) (rtV i j)
      have hr4 : ((topP (poV l 0 6)).length - (e + 1)) * (1027 + rl (rtV i j) + 2) ≤ 7 * 1030 := Nat.mul_le_mul (by omega) (by omega)
      refine wl_skip (then_n (wl_seq (wl_block ?_)))
      refine wl_regD 8 (by decide +kernel) ?_
      refine st_pure rfl ld34 ?_
      refine st_pure rfl ld34 ?_
      refine st_callP rfl (.cons im0 (.cons im0 .nil)) (c_FRMul (horn (rtV i j) ((topP (poV l 0 6)).drop (e + 1))) (rtV i j) (by omega)) ?_
      refine mv (mv ?_)
      refine st_pure rfl ix25 ?_
      refine st_pure rfl ld34 ?_
      try simp only [ekx]
      refine st_callP rfl (.cons im0 (.cons im0 .nil)) (c_FRAdd (horn (rtV i j) ((topP (poV l 0 6)).drop (e + 1)) * (rtV i j)) ((topP (poV l 0 6)).getD e 0) (by omega)) ?_
      refine st_store rfl sr34 ?_
      refine st_end nfc_BernsteinValues_0 ?_
      refine blk_n (then_n (wl_reg (mv ?_)))
      refine st_pure rfl (.bin rfl rfl (sub64 om om)) ?_
      refine asg ?_
      refine st_end nfc_BernsteinValues_0 ?_
      refine then_n ?_
      exact ⟨e, _, (show (e) ≤ (poV l 0 6).length from by omega), (show (e) < e + 1 from by omega), Weak.of_eq (put_id' (put_id' (put_id' (put_id' (put_id' (put_id' (put_id' (put_id' (put_id' (put_id' (put_id' (put_id' (put_id' (mk_id' clc_BernsteinValues_1) clc_BernsteinValues_1) clc_BernsteinValues_1) clc_BernsteinValues_1) clc_BernsteinValues_1) clc_BernsteinValues_1) clc_BernsteinValues_1) clc_BernsteinValues_1) clc_BernsteinValues_1) clc_BernsteinValues_1) clc_BernsteinValues_1) clc_BernsteinValues_1) clc_BernsteinValues_1) clc_BernsteinValues_1)⟩
    · skip
      have h78r := h78
      try simp only [hce, l1, t0, t1, dflt, val_dig] at h78
      obtain rfl : k = 0 := by omega
      refine wl_exit ?_
      refine then_e (then_e (blk_e (then_n (wl_seq ?_))))
      refine wl_regD 7 (by decide +kernel) ?_
      refine mv ?_
      refine st_pure rfl ld34 ?_
      refine mv (mv ?_)
      refine st_callP rfl (.cons im0 (.cons im0 .nil)) (c_MRat j i hj hi) ?_
      refine st_callP rfl (.cons im0 (.cons im0 (.cons im0 .nil))) (c_Part (poV l 0 6) (rtV i j) (rtV j i) (by omega) (by omega) (fun x hx => Nat.le_trans (hpr x hx) (by decide)) (by omega) hpo.1 hpo.2) ?_
      refine asg ?_
      refine st_end nfc_BernsteinValues_0 ?_
      refine then_n (wl_seq (wl_seq (wl_reg (mv ?_))))
      refine st_pure rfl ln37 ?_
      refine st_pure rfl (.bin rfl rfl rfl) ?_
      refine st_end nfc_BernsteinValues_0 ?_
      refine then_n ?_
      refine wl_cond rfl (fun h97 => ?_) (fun h97 => ?_)
      · skip
        have h97r := h97
        try simp only [hce, l1, t0, t1, dflt, val_dig] at h97
        exfalso
        omega
      · skip
        have h97r := h97
        try simp only [hce, l1, t0, t1, dflt, val_dig] at h97
        refine wl_skip (then_n (wl_seq ?_))
        refine wl_regD 42 (by decide +kernel) ?_
        refine mv (mv ?_)
        refine st_callP rfl (.cons im0 (.cons im0 .nil)) (c_BAdd (poV l 0 6) (poV l (poK l 0 6) 6) n (by omega) (by omega) (by omega) m1 m2 m3 hUp hUq) ?_
        refine st_pure rfl ld34 ?_
        refine st_callP rfl (.cons im0 (.cons im0 .nil)) (c_BEval (zipG (· + ·) (upP (poV l 0 6) n) (upP (poV l (poK l 0 6) 6) n)) (rtV i j) hSs (by omega)) ?_
        refine st_pure rfl ld34 ?_
        refine st_pure rfl ld34 ?_
        refine st_callP rfl (.cons im0 (.cons im0 .nil)) (c_FRAdd (evP (poV l 0 6) (rtV i j)) (evP (poV l (poK l 0 6) 6) (rtV i j)) (by omega)) ?_
        refine st_callP rfl (.cons im0 (.cons im0 .nil)) (c_FSame (evP (zipG (· + ·) (upP (poV l 0 6) n) (upP (poV l (poK l 0 6) 6) n)) (rtV i j)) ((evP (poV l 0 6) (rtV i j)) + (evP (poV l (poK l 0 6) 6) (rtV i j))) (by omega)) ?_
        refine mv ?_
        refine st_pure (guardX (v := true) rfl rfl ((decide_eq_true (by rw [ev_zip (by rw [upP_len m1]; omega) (by rw [upP_len m1, upP_len m2]), ev_up (by omega), ev_up (by omega)]))) rfl) (.move _) ?_
        refine st_pure (guardX (v := true) rfl rfl ((decide_eq_true (by rw [ev_zip (by rw [upP_len m1]; omega) (by rw [upP_len m1, upP_len m2]), ev_up (by omega), ev_up (by omega)]))) rfl) ld34 ?_
        refine st_callP (guardX (v := true) rfl rfl ((decide_eq_true (by rw [ev_zip (by rw [upP_len m1]; omega) (by rw [upP_len m1, upP_len m2]), ev_up (by omega), ev_up (by omega)]))) rfl) (.cons im0 (.cons im0 .nil)) (c_BEval (mulP (poV l 0 6) (poV l (poK l 0 6) 6)) (rtV i j) hSm (by omega)) ?_
        refine st_pure (guardX (v := true) rfl rfl ((decide_eq_true (by rw [ev_zip (by rw [upP_len m1]; omega) (by rw [upP_len m1, upP_len m2]), ev_up (by omega), ev_up (by omega)]))) rfl) ld34 ?_
        refine st_pure (guardX (v := true) rfl rfl ((decide_eq_true (by rw [ev_zip (by rw [upP_len m1]; omega) (by rw [upP_len m1, upP_len m2]), ev_up (by omega), ev_up (by omega)]))) rfl) ld34 ?_
        refine st_callP (guardX (v := true) rfl rfl ((decide_eq_true (by rw [ev_zip (by rw [upP_len m1]; omega) (by rw [upP_len m1, upP_len m2]), ev_up (by omega), ev_up (by omega)]))) rfl) (.cons im0 (.cons im0 .nil)) (c_FRMul (evP (poV l 0 6) (rtV i j)) (evP (poV l (poK l 0 6) 6) (rtV i j)) (by omega)) ?_
        refine st_callP (guardX (v := true) rfl rfl ((decide_eq_true (by rw [ev_zip (by rw [upP_len m1]; omega) (by rw [upP_len m1, upP_len m2]), ev_up (by omega), ev_up (by omega)]))) rfl) (.cons im0 (.cons im0 .nil)) (c_FSame (evP (mulP (poV l 0 6) (poV l (poK l 0 6) 6)) (rtV i j)) ((evP (poV l 0 6) (rtV i j)) * (evP (poV l (poK l 0 6) 6) (rtV i j))) (by have := rl_mul (evP (poV l 0 6) (rtV i j)) (evP (poV l (poK l 0 6) 6) (rtV i j)); omega)) ?_
        refine st_pure rfl (.pickT rfl ((decide_eq_true (by rw [ev_zip (by rw [upP_len m1]; omega) (by rw [upP_len m1, upP_len m2]), ev_up (by omega), ev_up (by omega)])))) ?_
        refine mv ?_
        refine st_pure (guardX (v := true) rfl rfl ((decide_eq_true (ev_mul (by omega) (by omega) _))) rfl) (.move _) ?_
        refine st_callP (guardX (v := true) rfl rfl ((decide_eq_true (ev_mul (by omega) (by omega) _))) rfl) (.cons im0 .nil) (c_Diff (mulP (poV l 0 6) (poV l (poK l 0 6) 6)) (by omega) (fun x hx => Nat.le_trans (hmr x hx) (by decide))) ?_
        refine st_pure (guardX (v := true) rfl rfl ((decide_eq_true (ev_mul (by omega) (by omega) _))) rfl) (.move _) ?_
        refine st_pure (guardX (v := true) rfl rfl ((decide_eq_true (ev_mul (by omega) (by omega) _))) rfl) (.move _) ?_
        refine st_callP (guardX (v := true) rfl rfl ((decide_eq_true (ev_mul (by omega) (by omega) _))) rfl) (.cons im0 (.cons im0 .nil)) (c_BAdd (mulP (difP (poV l 0 6)) (poV l (poK l 0 6) 6)) (mulP (poV l 0 6) (difP (poV l (poK l 0 6) 6))) (prN (poV l 0 6) (poV l (poK l 0 6) 6)) (by omega) (by omega) (by omega) n1 n2 n3 hUu hUv) ?_
        refine st_callP (guardX (v := true) rfl rfl ((decide_eq_true (ev_mul (by omega) (by omega) _))) rfl) (.cons im0 (.cons im0 .nil)) (c_BSame (difP (mulP (poV l 0 6) (poV l (poK l 0 6) 6))) (zipG (· + ·) (upP (mulP (difP (poV l 0 6)) (poV l (poK l 0 6) 6)) (prN (poV l 0 6) (poV l (poK l 0 6) 6))) (upP (mulP (poV l 0 6) (difP (poV l (poK l 0 6) 6))) (prN (poV l 0 6) (poV l (poK l 0 6) 6)))) (prN (poV l 0 6) (poV l (poK l 0 6) 6)) hdm0 (by omega) (by omega) n6 (by omega) (.inr hwl) hUd hUw) ?_
        refine st_pure rfl (.pickT rfl ((decide_eq_true (ev_mul (by omega) (by omega) _)))) ?_
        refine mv ?_
        refine st_pure (guardX (v := true) rfl rfl ((by rw [dif_prod (by omega) (by omega), upP_self (n := (prN (poV l 0 6) (poV l (poK l 0 6) 6))) (p := (zipG (· + ·) (upP (mulP (difP (poV l 0 6)) (poV l (poK l 0 6) 6)) (prN (poV l 0 6) (poV l (poK l 0 6) 6))) (upP (mulP (poV l 0 6) (difP (poV l (poK l 0 6) 6))) (prN (poV l 0 6) (poV l (poK l 0 6) 6))))) (by omega), zip_self]; rfl)) rfl) ld34 ?_
        refine st_pure (guardX (v := true) rfl rfl ((by rw [dif_prod (by omega) (by omega), upP_self (n := (prN (poV l 0 6) (poV l (poK l 0 6) 6))) (p := (zipG (· + ·) (upP (mulP (difP (poV l 0 6)) (poV l (poK l 0 6) 6)) (prN (poV l 0 6) (poV l (poK l 0 6) 6))) (upP (mulP (poV l 0 6) (difP (poV l (poK l 0 6) 6))) (prN (poV l 0 6) (poV l (poK l 0 6) 6))))) (by omega), zip_self]; rfl)) rfl) ld34 ?_
        refine st_callP (guardX (v := true) rfl rfl ((by rw [dif_prod (by omega) (by omega), upP_self (n := (prN (poV l 0 6) (poV l (poK l 0 6) 6))) (p := (zipG (· + ·) (upP (mulP (difP (poV l 0 6)) (poV l (poK l 0 6) 6)) (prN (poV l 0 6) (poV l (poK l 0 6) 6))) (upP (mulP (poV l 0 6) (difP (poV l (poK l 0 6) 6))) (prN (poV l 0 6) (poV l (poK l 0 6) 6))))) (by omega), zip_self]; rfl)) rfl) (.cons im0 (.cons im0 .nil)) (c_FSame (horn (rtV i j) (topP (poV l 0 6))) (evP (poV l 0 6) (rtV i j)) (by rw [hht]; omega)) ?_
        refine st_pure rfl (.pickT rfl ((by rw [dif_prod (by omega) (by omega), upP_self (n := (prN (poV l 0 6) (poV l (poK l 0 6) 6))) (p := (zipG (· + ·) (upP (mulP (difP (poV l 0 6)) (poV l (poK l 0 6) 6)) (prN (poV l 0 6) (poV l (poK l 0 6) 6))) (upP (mulP (poV l 0 6) (difP (poV l (poK l 0 6) 6))) (prN (poV l 0 6) (poV l (poK l 0 6) 6))))) (by omega), zip_self]; rfl))) ?_
        refine mv ?_
        refine st_pure (guardX (v := true) rfl rfl ((decide_eq_true hht)) rfl) (.move _) ?_
        refine st_pure (guardX (v := true) rfl rfl ((decide_eq_true hht)) rfl) ix37 ?_
        refine st_pure (guardX (v := true) rfl rfl ((decide_eq_true hht)) rfl) ld34 ?_
        refine st_pure (guardX (v := true) rfl rfl ((decide_eq_true hht)) rfl) ld34 ?_
        refine st_callP (guardX (v := true) rfl rfl ((decide_eq_true hht)) rfl) (.cons im0 (.cons im0 .nil)) (c_FSame ((partB (poV l 0 6) (rtV i j) (rtV j i)).getD 0 0) (evP (poV l 0 6) (rtV i j)) (by rw [hp0]; omega)) ?_
        refine st_pure rfl (.pickT rfl ((decide_eq_true hht))) ?_
        refine mv ?_
        refine st_callP (guardX (v := true) rfl rfl ((decide_eq_true hp0)) rfl) .nil (c_awake5) ?_
        refine st_pure rfl (.pickT rfl ((decide_eq_true hp0))) ?_
        refine asg ?_
        refine st_end nfc_BernsteinValues_0 ?_
        refine then_n (wl_ret ?_)
        exact ret1 rfl (by first | exact .pure rfl | exact .pure (limL_pure _) | exact .pure (magL_pure _) | exact .pure (ratE.pure _) | exact .pure (pure_lst u32E _ _) | exact .pure (pure_lst ratE _ _))
end Go.Proofs.Ythhdcfhaldcheaa
