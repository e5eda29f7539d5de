/- Polynomials in Bernstein form: values, parts, validity. -/
import Derived.Test.YthhdcfhaldcheaaGreatR6
set_option linter.unusedVariables false
set_option linter.unusedSimpArgs false
set_option maxHeartbeats 8000000
set_option maxRecDepth 100000
attribute [local irreducible] Go.Lg.opsL Go.Lg.wpL Go.Lg.thenL Go.Lg.blockL
namespace Go.Proofs.YthhdcfhaldcheaaGreat
open Go.Lg
/-- the sizes that a halving takes -/
def HS (p : List Rat) (t : Rat) : Prop := ∃ cc, rl (1 - t) + rl t + 1 ≤ cc ∧ cc ≤ 1073741824 ∧ ∀ x ∈ p, (rl x + cc) * 2 ^ p.length ≤ 1073741824
theorem c_halvesH (p : List Rat) (t : Rat) (h : HS p t) : CallP Tryz.prog 144 [.list 3 (p.map ratL), ratL t] (.tup [.list 3 ((loP p t).map ratL), .list 3 ((hiP p t).map ratL)]) := by
  obtain ⟨cc, h1, h2, h3⟩ := h
  exact c_halves p t cc h1 h2 h3
theorem HS.len {p : List Rat} {t : Rat} (h : HS p t) : p.length ≤ 30 := by
  obtain ⟨cc, h1, h2, h3⟩ := h
  exact sz_len (Nat.le_trans (Nat.le_add_left 1 _) h1) h3
theorem HS.rl {p : List Rat} {t : Rat} (h : HS p t) : rl t ≤ 1073741824 ∧ ∀ x ∈ p, Go.Lg.rl x ≤ 1073741824 := by
  obtain ⟨cc, h1, h2, h3⟩ := h
  exact ⟨by omega, fun x hx => by have := sz_rl (h3 x hx); omega⟩
def evP (p : List Rat) (t : Rat) : Rat := (loP p t).getD (p.length - 1) 0
def partB (p : List Rat) (a b : Rat) : List Rat := if 1 - a ≠ 0 then loP (hiP p a) ((b - a) / (1 - a)) else if b ≠ 0 then hiP (loP p b) (1 / b) else p.reverse
theorem sgn0 {q : Rat} : (sgnR q != 0) = decide (q ≠ 0) := by
  rw [Bool.eq_iff_iff, bne_iff_ne, decide_eq_true_iff]
  unfold sgnR; split
  · simp [*]
  · rename_i h; split <;> simp [h]
theorem getD_rev (p : List Rat) {x : Nat} (h : x < p.length) : p.reverse.getD x 0 = p.getD (p.length - 1 - x) 0 := by
  rw [List.getD_eq_getElem?_getD, List.getD_eq_getElem?_getD, List.getElem?_reverse h]
theorem set_getD (o : List Rat) (i x : Nat) (v : Rat) (hi : i < o.length) : (o.set i v).getD x 0 = if x = i then v else o.getD x 0 := by
  rw [List.getD_eq_getElem?_getD, List.getD_eq_getElem?_getD, List.getElem?_set]
  by_cases h : i = x
  · subst h; simp [hi]
  · rw [if_neg h, if_neg (fun e => h e.symm)]
theorem rev_step {p o : List Rat} {i j n : Nat} (hp : p.length = n) (ho : o.length = n) (hij : i < j) (hj : j + i + 1 = n)
    (h : ∀ x, x < n → o.getD x 0 = if x < i ∨ n ≤ x + i then p.getD (n - 1 - x) 0 else p.getD x 0) :
    ∀ x, x < n → ((o.set i (o.getD j 0)).set j (o.getD i 0)).getD x 0 = if x < i + 1 ∨ n ≤ x + (i + 1) then p.getD (n - 1 - x) 0 else p.getD x 0 := by
  intro x hx
  rw [set_getD _ _ _ _ (by simp; omega), set_getD _ _ _ _ (by omega), h j (by omega), h i (by omega), h x hx]
  by_cases h1 : x = j
  · subst h1
    rw [if_pos rfl, if_neg (by omega), if_pos (by omega), show n - 1 - x = i by omega]
  · rw [if_neg h1]
    by_cases h2 : x = i
    · subst h2
      rw [if_pos rfl, if_neg (by omega), if_pos (by omega), show n - 1 - x = j by omega]
    · rw [if_neg h2]
      by_cases h3 : x < i ∨ n ≤ x + i
      · rw [if_pos h3, if_pos (by omega)]
      · rw [if_neg h3, if_neg (by omega)]
theorem rev_end {p o : List Rat} {i n : Nat} (hp : p.length = n) (ho : o.length = n) (hi : n ≤ 2 * i + 1) (h : ∀ x, x < n → o.getD x 0 = if x < i ∨ n ≤ x + i then p.getD (n - 1 - x) 0 else p.getD x 0) : o = p.reverse := by
  refine ext_getD (by simp [hp, ho]) (fun x hx => ?_)
  rw [getD_rev p (by omega), h x (by omega), hp]
  by_cases h3 : x < i ∨ n ≤ x + i
  · rw [if_pos h3]
  · rw [if_neg h3]; congr 1; omega
def fiI (p : List Rat) (g : Rat → Bool) : Int := if p.any g then ((p.findIdx g : Nat) : Int) else -1
theorem fi_any (p : List Rat) (g : Rat → Bool) : decide (fiI p g ≥ 0) = p.any g := by
  unfold fiI; cases h : p.any g <;> simp
theorem fi_hit {p : List Rat} {g : Rat → Bool} {k : Nat} (hk : k < p.length) (h : ∀ x, x < k → g (p.getD x 0) = false) (hg : g (p.getD k 0) = true) : fiI p g = (k : Int) := by
  have e : p.findIdx g = k := by
    have hpk : p.getD k 0 = p[k] := by rw [List.getD_eq_getElem?_getD, List.getElem?_eq_getElem hk]; rfl
    apply Nat.le_antisymm
    · rcases Nat.lt_or_ge k (p.findIdx g) with h1 | h1
      · have := List.not_of_lt_findIdx h1
        rw [← hpk, hg] at this; cases this
      · exact h1
    · rcases Nat.lt_or_ge (p.findIdx g) k with h1 | h1
      · have h2 := List.findIdx_getElem (p := g) (xs := p) (w := by omega)
        have h3 := h _ h1
        rw [List.getD_eq_getElem?_getD, List.getElem?_eq_getElem (by omega)] at h3
        simp at h3; rw [h3] at h2; cases h2
      · exact h1
  have ha : p.any g = true := List.any_eq_true.2 ⟨p.getD k 0, getD_mem hk, hg⟩
  rw [fiI, if_pos ha, e]
theorem fi_miss {p : List Rat} {g : Rat → Bool} (h : ∀ x, x < p.length → g (p.getD x 0) = false) : fiI p g = -1 := by
  have ha : p.any g = false := by
    rw [List.any_eq_false]
    intro x hx
    obtain ⟨i, hi, rfl⟩ := mem_getD hx
    rw [h i hi]; decide
  rw [fiI, ha]; rfl
open H0 in
theorem c_BSplit (p : List Rat) (t : Rat) (h : HS p t) : CallP Tryz.prog 102 [.list 3 (p.map ratL), ratL t] (.tup [.list 3 ((loP p t).map ratL), .list 3 ((hiP p t).map ratL)]) := by
  refine fnP Tryz.func102 ?_
  refine zg11 ?_
  refine cp am2 (c_halvesH _ _ (by assumption)) ?_
  refine zg7 ?_
  exact ret2 rfl (.pure (pure_lst ratE _ _)) rfl (.pure (pure_lst ratE _ _))
namespace H_c_BEval
theorem zSm {p q : Prop} (k : q) (e : p = q := by simp only [e1, e2, e3, e4, p1, p2, p3, q1, q2, q3, l1, t0, t1, r1, r2, r3, r4, Nat.zero_add, Nat.reduceMul, Nat.reduceAdd, b1, b2, b3, b4, b5, b6, i1, i2, i3, i4, i5, i6, Nat.reduceBEq, dfq, ej, hll]; exact rfl) : p := e.mpr k
end H_c_BEval
open H_c_BEval in
theorem c_BEval (p : List Rat) (t : Rat) (h : HS p t) (hp0 : 0 < p.length) : CallP Tryz.prog 92 [.list 3 (p.map ratL), ratL t] (ratL (evP p t)) := by
  have hll := loP_len p t
  have hlen := h.len
  have hj : (((p.length : Nat) : Int) - 1).toNat = p.length - 1 := by omega
  refine fnP Tryz.func92 ?_
  have ej : True := trivial
  refine zg14 ?_
  refine wl_if rfl (fun h9r h9 => ?_) (fun h9r h9 => ?_)
  · omega
  · refine zg6 ?_
    refine cp am2 (c_halvesH _ _ (by assumption)) ?_
    refine zg12 ?_
    refine st_pure rfl (.bin rfl rfl (sub1N (by omega) (by omega))) ?_
    refine zg6 ?_
    rw [evP]
    exact retC [] rfl rfl rfl (ratE.csize _) (ratL_all _) T33 (.pure (ratE.pure _))
open H0 in
theorem c_quo (a b : Rat) (h : rl a + rl b ≤ 1099511627776) : CallP Tryz.prog 109 [ratL a, ratL b] (ratL (a / b)) := by
  refine fnP Tryz.func109 ?_
  refine zg11 ?_
  refine cp am2 (c_RQuo _ _ (by omega)) ?_
  refine zg15 ?_
  exact retC [] rfl rfl rfl (ratE.csize _) (ratL_all _) T33 (.pure (ratE.pure _))
namespace H_c_IndexFunc
theorem zSm {p q : Prop} (k : q) (e : p = q := by simp only [e1, e2, e3, e4, p1, p2, p3, q1, q2, q3, l1, t0, t1, r1, r2, r3, r4, Nat.zero_add, Nat.reduceMul, Nat.reduceAdd, b1, b2, b3, b4, b5, b6, i1, i2, i3, i4, i5, i6, Nat.reduceBEq, dfq]; exact rfl) : p := e.mpr k
end H_c_IndexFunc
open H_c_IndexFunc in
theorem c_IndexFunc (p : List Rat) (f : Nat) (g : Rat → Bool) (hl : p.length ≤ 1048576) (hf : ∀ x ∈ p, CallP Tryz.prog f [ratL x] (bL (g x))) : CallP Tryz.prog 171 [.list 3 (p.map ratL), .clo f []] (iL (fiI p g)) := by
  refine fnP Tryz.func171 ?_
  refine zg14 ?_
  refine lp1 (fun (k : Nat) L => (((((St.mk L.slot (hp [])).put (some 0) (.list 3 (p.map ratL))).put (some 1) (.clo f [])).put (some 7) (nI64 p.length)).put (some 8) (nI64 k))) (fun k => k ≤ p.length ∧ ∀ x, x < k → g (p.getD x 0) = false) (fun k => p.length - k) 0 ⟨Nat.zero_le _, fun x hx => by omega⟩ ?_
  rintro k L1 ⟨hk, hg⟩
  refine zg6 ?_
  refine wl_if rfl (fun h9r h9 => ?_) (fun h9r h9 => ?_)
  · have hk2 : k < p.length := by omega
    have hfk := hf _ (getD_mem hk2)
    refine zg17 ?_
    simp only [t1, dfq]
    refine st_opc [] rfl rfl (.clo (f := f) (cap := []) (args := [ratL (p.getD k 0)]) rfl (.cons im0 .nil) ⟨rfl, fun _ h => by cases h⟩ hfk.1 (by decide) (fun _ h => by cases h)) (hfk.2 _) ?_
    refine zg2 ?_
    refine wl_if rfl (fun h16r h16 => ?_) (fun h16r h16 => ?_)
    · refine zg12 ?_
      rw [fi_hit hk2 hg h16r]
      exact ret1 rfl (by first | exact .pure rfl | exact .pure (limL_pure _) | exact .pure (magL_pure _) | exact .pure (ratE.pure _) | exact .pure (pure_lst u32E _ _) | exact .pure (pure_lst ratE _ _))
    · refine zg8 ?_
      exact nx1 (k + 1) ⟨by omega, fun x hx => by
        rcases Nat.lt_or_ge x k with h | h
        · exact hg x h
        · rw [show x = k by omega]; exact h16r⟩
  · obtain rfl : k = p.length := by omega
    refine zg11 ?_
    rw [fi_miss hg]
    exact ret1 rfl (by first | exact .pure rfl | exact .pure (limL_pure _) | exact .pure (magL_pure _) | exact .pure (ratE.pure _) | exact .pure (pure_lst u32E _ _) | exact .pure (pure_lst ratE _ _))
open H0 in
theorem c_ContainsFunc (p : List Rat) (f : Nat) (g : Rat → Bool) (hl : p.length ≤ 1048576) (hf : ∀ x ∈ p, CallP Tryz.prog f [ratL x] (bL (g x))) : CallP Tryz.prog 136 [.list 3 (p.map ratL), .clo f []] (bL (p.any g)) := by
  refine fnP Tryz.func136 ?_
  refine zg9 ?_
  refine cp am2 (c_IndexFunc p f g hl hf) ?_
  refine zg5 ?_
  rw [← fi_any]
  exact ret1 rfl (by first | exact .pure rfl | exact .pure (limL_pure _) | exact .pure (magL_pure _) | exact .pure (ratE.pure _) | exact .pure (pure_lst u32E _ _) | exact .pure (pure_lst ratE _ _))
open H0 in
theorem c_BValid1 (q : Rat) (h : rl q ≤ 1099511627776) : CallP Tryz.prog 148 [ratL q] (bL false) := by
  refine fnP Tryz.func148 ?_
  refine zg9 ?_
  refine cp am1 (c_RValid _ (by omega)) ?_
  refine zg5 ?_
  exact ret1 rfl (by first | exact .pure rfl | exact .pure (limL_pure _) | exact .pure (magL_pure _) | exact .pure (ratE.pure _) | exact .pure (pure_lst u32E _ _) | exact .pure (pure_lst ratE _ _))
namespace H_c_BValid
theorem zSm {p q : Prop} (k : q) (e : p = q := by simp only [e1, e2, e3, e4, p1, p2, p3, q1, q2, q3, l1, t0, t1, r1, r2, r3, r4, Nat.zero_add, Nat.reduceMul, Nat.reduceAdd, b1, b2, b3, b4, b5, b6, i1, i2, i3, i4, i5, i6, Nat.reduceBEq, hany]; exact rfl) : p := e.mpr k
end H_c_BValid
open H_c_BValid in
theorem c_BValid (p : List Rat) (hl : p.length ≤ 1048576) (hpr : ∀ x ∈ p, rl x ≤ 1099511627776) : CallP Tryz.prog 103 [.list 3 (p.map ratL)] (bL (decide (0 < p.length ∧ p.length ≤ 41))) := by
  have hany : (p.any fun _ => false) = false := by simp
  refine fnP Tryz.func103 ?_
  refine zg11 ?_
  refine op_if 6 rfl (fun h6r h6 => ?_) (fun h6r h6 => ?_)
  · refine zg5 ?_
    refine op_if 11 rfl (fun h11r h11 => ?_) (fun h11r h11 => ?_)
    · refine zg1 ?_
      refine cp am2 (c_ContainsFunc p 148 (fun _ => false) hl (fun x hx => c_BValid1 x (hpr x hx))) ?_
      refine zg6 ?_
      rw [show decide (0 < p.length ∧ p.length ≤ 41) = true from decide_eq_true (by omega)]
      exact ret1 rfl (by first | exact .pure rfl | exact .pure (limL_pure _) | exact .pure (magL_pure _) | exact .pure (ratE.pure _) | exact .pure (pure_lst u32E _ _) | exact .pure (pure_lst ratE _ _))
    · refine zg8 ?_
      rw [show decide (0 < p.length ∧ p.length ≤ 41) = false from decide_eq_false (by omega)]
      exact ret1 rfl (by first | exact .pure rfl | exact .pure (limL_pure _) | exact .pure (magL_pure _) | exact .pure (ratE.pure _) | exact .pure (pure_lst u32E _ _) | exact .pure (pure_lst ratE _ _))
  · refine zg13 ?_
    rw [show decide (0 < p.length ∧ p.length ≤ 41) = false from decide_eq_false (by omega)]
    exact ret1 rfl (by first | exact .pure rfl | exact .pure (limL_pure _) | exact .pure (magL_pure _) | exact .pure (ratE.pure _) | exact .pure (pure_lst u32E _ _) | exact .pure (pure_lst ratE _ _))
end Go.Proofs.YthhdcfhaldcheaaGreat
