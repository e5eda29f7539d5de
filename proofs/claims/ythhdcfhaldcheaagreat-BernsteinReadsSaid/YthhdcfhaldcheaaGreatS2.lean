/- Changes of sign; the law BernsteinSigns. -/
import Derived.Test.YthhdcfhaldcheaaGreatS1
import Derived.Test.YthhdcfhaldcheaaGreatL1
import Derived.Test.YthhdcfhaldcheaaGreatE3
set_option linter.unusedVariables false
set_option linter.unusedSimpArgs false
set_option maxHeartbeats 8000000
set_option maxRecDepth 100000
attribute [local irreducible] Go.Lg.opsL Go.Lg.wpL Go.Lg.thenL Go.Lg.blockL
namespace Go.Proofs.YthhdcfhaldcheaaGreat
open Go.Lg
theorem vr_step {p : List Rat} {k : Nat} {s : Int} (h : k < p.length) : vrs s ((p.drop k).map sgnR) = (if sgnR (p.getD k 0) * s < 0 then 1 else 0) + vrs (if sgnR (p.getD k 0) ≠ 0 then sgnR (p.getD k 0) else s) ((p.drop (k + 1)).map sgnR) := by
  rw [List.drop_eq_getElem_cons h, List.map_cons, vrs]
  rw [List.getD_eq_getElem?_getD, List.getElem?_eq_getElem h]; rfl
theorem sgn_bd {q s : Int} (h : q = 0 ∨ q = 1 ∨ q = -1) (g : s = 0 ∨ s = 1 ∨ s = -1) : -1 ≤ q * s ∧ q * s ≤ 1 := by
  rcases h with rfl | rfl | rfl <;> rcases g with rfl | rfl | rfl <;> decide
theorem ks0 {c : Int} (h : 1 ≤ c) : KS 0 (scl [(c : Rat)]) := by
  have e : scl [(c : Rat)] = [(c : Rat)] := by
    simp [scl, List.range_succ, chR, chs]
    try grind
  rw [e]
  refine .z (s := 1) (by simp) (.inl rfl) fun x hx => ?_
  rw [List.mem_singleton.1 hx]
  exact sgn_pos (Rat.intCast_pos.2 (by omega))
theorem ks_root {n : Nat} {p : List Rat} {a : Rat} (h : KS n (scl p)) (h0 : 0 < p.length) (h1 : 0 < a) (h2 : a < 1) : KS (n + 1) (scl (mulP p [-a, 1 - a])) := by
  rw [scl_mul h0]; exact .r h h1 (by grind)
theorem ks_non {n : Nat} {p : List Rat} {a : Rat} (h : KS n (scl p)) (h0 : 0 < p.length) (h1 : a < 0 ∨ 1 < a) : KS n (scl (mulP p [-a, 1 - a])) := by
  rw [scl_mul h0]
  rcases h1 with h1 | h1
  · exact h.non (.inl ⟨by grind, by grind⟩)
  · exact h.non (.inr ⟨by grind, by grind⟩)
theorem cmpR_lt {a b : Rat} : cmpR a b < 0 ↔ a < b := by
  unfold cmpR; split
  · simp [*]
  · split <;> simp [*]
theorem sgnR_pos {a : Rat} : 0 < sgnR a ↔ 0 < a := by
  rcases sgn_cases a with ⟨g, h⟩ | ⟨g, h⟩ | ⟨g, h⟩
  · rw [h, g]; exact ⟨fun e => absurd e (by decide), fun e => absurd e (by decide)⟩
  · rw [h]; exact ⟨fun _ => g, fun _ => by decide⟩
  · rw [h]; exact ⟨fun e => absurd e (by decide), fun e => by grind⟩
theorem ns1 {p : List Rat} {n : Nat} (h : KS n (scl p)) : decide (((n : Nat) : Int) ≤ ((vrR p : Nat) : Int)) = true := by
  have := h.vr.1
  rw [vr_scl] at this
  exact decide_eq_true (by omega)
theorem ns2 {p : List Rat} {n : Nat} (h : KS n (scl p)) : ((((vrR p : Nat) : Int) - ((n : Nat) : Int)).tmod 2 == 0) = true := by
  have h1 := h.vr
  rw [vr_scl] at h1
  rw [Int.tmod_eq_emod_of_nonneg (by omega)]
  rw [show (((vrR p : Nat) : Int) - ((n : Nat) : Int)) % 2 = 0 by omega]
  rfl
theorem ks_len {i : Nat} {p : List Rat} {a : Rat} (h0 : 0 < p.length) (hi : i < 7) (hl : p.length ≤ i + 1) (ha : rl a ≤ 1) (hr : ∀ x ∈ p, rl x + 13 ≤ 2 ^ i * 14) : 0 < (mulP p [-a, 1 - a]).length ∧ (mulP p [-a, 1 - a]).length ≤ i + 1 + 1 ∧ ∀ x ∈ mulP p [-a, 1 - a], rl x + 13 ≤ 2 ^ (i + 1) * 14 := by
  have e := mul2_len (u := -a) (v := 1 - a) h0
  refine ⟨by omega, by omega, fun x hx => ?_⟩
  have h1 := rl_sub 1 a
  rw [show rl 1 = 1 from rfl] at h1
  have hp : 1 ≤ 2 ^ i := Nat.one_le_two_pow
  have := mul2_rl (R := 2 ^ i * 14 - 13) h0 (by omega) (by omega) (fun x hx => by have := hr x hx; omega) (by rw [rl_neg]; omega) (by omega) x hx
  rw [Nat.pow_succ]; omega

theorem getD_memI {l : List Int} {i : Nat} (h : i < l.length) : l.getD i 0 ∈ l := by
  rw [List.getD_eq_getElem?_getD, List.getElem?_eq_getElem h]; exact List.getElem_mem h
theorem ks_rl {i : Nat} {a : Rat} (ha : rl a ≤ 1) : ∀ x ∈ [-a, 1 - a], rl x ≤ 2 ^ i * 14 := fun x hx => by
  have h1 := rl_sub 1 a
  rw [show rl 1 = 1 from rfl] at h1
  have hp : 1 ≤ 2 ^ i := Nat.one_le_two_pow
  simp only [List.mem_cons, List.not_mem_nil, or_false] at hx
  rcases hx with rfl | rfl
  · rw [rl_neg]; omega
  · omega
theorem non1 {a : Rat} (h : ¬ a = 1) (g : ¬ cmpR a 1 < 0) : a < 0 ∨ 1 < a := by
  have : ¬ a < 1 := fun e => g (cmpR_lt.2 e)
  exact .inr (by grind)
theorem non2 {a : Rat} (h : ¬ sgnR a = 0) (g : ¬ sgnR a > 0) : a < 0 ∨ 1 < a := by
  rcases sgn_cases a with ⟨_, e⟩ | ⟨_, e⟩ | ⟨e, _⟩
  · exact absurd e h
  · omega
  · exact .inl e
namespace H_c_Variations
theorem zSm {p q : Prop} (k : q) (e : p = q := by simp only [e1, e2, e3, e4, p1, p2, p3, q1, q2, q3, l1, t0, t1, r1, r2, r3, r4, Nat.zero_add, Nat.reduceMul, Nat.reduceAdd, b1, b2, b3, b4, b5, b6, i1, i2, i3, i4, i5, i6, Nat.reduceBEq, dfq, kills_map ratE, ratL_kill, LV.kill, kills]; exact rfl) : p := e.mpr k
end H_c_Variations
open H_c_Variations in
theorem c_Variations (p : List Rat) (hl : p.length ≤ 1048576) (hpr : ∀ x ∈ p, rl x ≤ 1099511627776) : CallP Tryz.prog 61 [.list 3 (p.map ratL)] (nI64 (vrR p)) := by
  refine fnP Tryz.func61 ?_
  refine zg20 ?_
  refine lp3 (fun (k : Nat) (s : Int) (m : Nat) L => ((((((St.mk L.slot (hp [])).put (some 3) (iL s)).put (some 4) (nI64 m)).put (some 8) (.list 3 (p.map ratL))).put (some 9) (nI64 p.length)).put (some 10) (nI64 k))) (fun k s m => k ≤ p.length ∧ (s = 0 ∨ s = 1 ∨ s = -1) ∧ m ≤ k ∧ m + vrs s ((p.drop k).map sgnR) = vrR p) (fun k s m => p.length - k) 0 0 0 ⟨Nat.zero_le _, .inl rfl, Nat.le_refl _, by simp [vrR]⟩ ?_
  rintro k s m L1 ⟨hk, hs3, hmk, hv⟩
  refine zg6 ?_
  refine wl_if rfl (fun h11r h11 => ?_) (fun h11r h11 => ?_)
  · have hk2 : k < p.length := by omega
    have hrk := hpr _ (getD_mem (i := k) hk2)
    rw [vr_step hk2] at hv
    have hx3 := sgn3 (p.getD k 0)
    have hbd := sgn_bd hx3 hs3
    refine zg15 ?_
    refine cp am1 (c_RSign _ (by omega)) ?_
    refine zg12 ?_
    refine wl_if rfl (fun h19r h19 => ?_) (fun h19r h19 => ?_)
    · refine zg12 ?_
      refine wl_if rfl (fun h23r h23 => ?_) (fun h23r h23 => ?_)
      · refine zg6 ?_
        refine wl_regW (Weak.kill _ 6) ?_
        refine zg4 ?_
        exact nx3 (k + 1) (sgnR (p.getD k 0)) (m + 1) ⟨by omega, hx3, by omega, by rw [if_pos h19, if_pos h23] at hv; omega⟩
      · refine zg3 ?_
        refine wl_regW (Weak.kill _ 6) ?_
        refine zg4 ?_
        exact nx3 (k + 1) s (m + 1) ⟨by omega, hs3, by omega, by rw [if_pos h19, if_neg (fun g => g h23)] at hv; omega⟩
    · refine zg8 ?_
      refine wl_if rfl (fun h23r h23 => ?_) (fun h23r h23 => ?_)
      · refine zg6 ?_
        refine wl_regW (Weak.kill _ 6) ?_
        refine zg4 ?_
        exact nx3 (k + 1) (sgnR (p.getD k 0)) m ⟨by omega, hx3, by omega, by rw [if_neg h19, if_pos h23] at hv; omega⟩
      · refine zg3 ?_
        refine wl_regW (Weak.kill _ 6) ?_
        refine zg4 ?_
        exact nx3 (k + 1) s m ⟨by omega, hs3, by omega, by rw [if_neg h19, if_neg (fun g => g h23)] at hv; omega⟩
  · obtain rfl : k = p.length := by omega
    rw [List.drop_length] at hv
    have hv2 : m = vrR p := hv
    refine zg12 ?_
    rw [← hv2]
    exact ret1 rfl (by first | exact .pure rfl | exact .pure (limL_pure _) | exact .pure (magL_pure _) | exact .pure (ratE.pure _) | exact .pure (pure_lst u32E _ _) | exact .pure (pure_lst ratE _ _))
end Go.Proofs.YthhdcfhaldcheaaGreat
