/- Parts and bounds of nets; the law TensorHull. -/
import Derived.Test.YthhdcfhaldcheaaGreatT5
import Derived.Test.YthhdcfhaldcheaaGreatE2
import Derived.Test.YthhdcfhaldcheaaGreatE3
set_option linter.unusedVariables false
set_option linter.unusedSimpArgs false
set_option maxHeartbeats 8000000
set_option maxRecDepth 100000
attribute [local irreducible] Go.Lg.opsL Go.Lg.wpL Go.Lg.thenL Go.Lg.blockL
namespace Go.Proofs.YthhdcfhaldcheaaGreat
open Go.Lg
/-! ### parts of nets -/
def ptU (U V : Nat) (c : List Rat) (a b : Rat) : List Rat := swL V U (rsL (fun p => partB p a b) U (swL U V c) (V + 1))
def ptW (V U : Nat) (c : List Rat) (a b : Rat) : List Rat := rsL (fun p => partB p a b) V c (U + 1)
theorem ptU_len (U V : Nat) (c : List Rat) (a b : Rat) : (ptU U V c a b).length = (U + 1) * (V + 1) := swL_len V U _
theorem sw_mem {U V : Nat} {c : List Rat} (hc : c.length = (U + 1) * (V + 1)) {x : Rat} (hx : x ∈ swL U V c) : x ∈ c := by
  obtain ⟨i, hi, rfl⟩ := List.mem_map.1 hx
  have hi := List.mem_range.1 hi
  have h1 : i / (U + 1) < V + 1 := Nat.div_lt_of_lt_mul (by rw [Nat.mul_comm]; exact hi)
  have h2 := Nat.mod_lt i (show U + 1 > 0 by omega)
  exact getD_mem (by rw [hc]; exact ix_lt (by omega) (by omega))
theorem rs_mem {g : List Rat → List Rat} {V U : Nat} {c : List Rat} {Q : Rat → Prop} (h : ∀ i, i ≤ U → ∀ x ∈ g (rwL V c i), Q x) : ∀ {n : Nat}, n ≤ U + 1 → ∀ x ∈ rsL g V c n, Q x
  | 0, _, x, hx => by cases hx
  | n + 1, hn, x, hx => by
    rcases List.mem_append.1 (show x ∈ rsL g V c n ++ g (rwL V c n) from hx) with h1 | h1
    · exact rs_mem h (by omega) x h1
    · exact h n (by omega) x h1
theorem rs_get {g : List Rat → List Rat} {V W U : Nat} {c : List Rat} (hg : ∀ i, i ≤ U → (g (rwL V c i)).length = W + 1) {i j : Nat} (hj : j ≤ W) : ∀ {n : Nat}, n ≤ U + 1 → i < n → (rsL g V c n).getD (i * (W + 1) + j) 0 = (g (rwL V c i)).getD j 0
  | 0, _, hi => by omega
  | n + 1, hn, hi => by
    have hl := rsL_len hg n (by omega)
    rw [rsL]
    rcases Nat.lt_or_ge i n with h | h
    · rw [getD_app1 _ _ _ (by rw [hl]; have := Nat.mul_le_mul_right (W + 1) (show i + 1 ≤ n from h); rw [Nat.succ_mul] at this; omega)]
      exact rs_get hg hj (by omega) h
    · obtain rfl : i = n := by omega
      rw [List.getD_eq_getElem?_getD, List.getElem?_append_right (by rw [hl]; omega), hl, Nat.add_sub_cancel_left, ← List.getD_eq_getElem?_getD]
theorem sw_get {U V : Nat} {c : List Rat} {i j : Nat} (hi : i ≤ U) (hj : j ≤ V) : (swL U V c).getD (j * (U + 1) + i) 0 = c.getD (i * (V + 1) + j) 0 := by
  rw [swL, gL_get (ix_lt hj hi), swV, ix_div hi, ix_mod hi]
theorem inR_of {m M : Rat} {l : List Rat} (h : ∀ x ∈ l, m ≤ x ∧ x ≤ M) : inR m M l := fun _ hi => h _ (getD_mem hi)
theorem inR_mem {m M : Rat} {l : List Rat} (h : inR m M l) : ∀ x ∈ l, m ≤ x ∧ x ≤ M := fun x hx => by
  obtain ⟨i, hi, rfl⟩ := List.getElem_of_mem hx
  have := h i hi
  rwa [List.getD_eq_getElem?_getD, List.getElem?_eq_getElem hi] at this
theorem t_in {a b : Rat} (h : 1 - a ≠ 0) (hab : a ≤ b) (hb : b ≤ 1) : 0 ≤ (b - a) / (1 - a) ∧ (b - a) / (1 - a) ≤ 1 := by
  have h0 : 0 < 1 - a := by grind
  have h1 := Rat.mul_inv_cancel _ h
  have h2 : 0 ≤ (1 - a)⁻¹ := Rat.le_of_lt (Rat.inv_pos.2 h0)
  have h3 := Rat.mul_nonneg (show 0 ≤ b - a by grind) h2
  have h4 := Rat.mul_nonneg (show 0 ≤ (1 - a) - (b - a) by grind) h2
  rw [Rat.div_def]
  exact ⟨h3, by grind⟩
theorem part_in {m M a b : Rat} {p : List Rat} (h0 : 0 ≤ a) (hab : a ≤ b) (hb : b ≤ 1) (h : inR m M p) : inR m M (partB p a b) := by
  unfold partB
  split
  · rename_i ha
    obtain ⟨t0, t1⟩ := t_in ha hab hb
    exact inR_lo t0 t1 _ _ rfl (inR_hi h0 (by grind) _ p [] rfl h (fun i hi => by cases hi))
  · rename_i ha
    obtain rfl : b = 1 := by grind
    rw [if_pos (by decide)]
    exact inR_hi (by decide +kernel) (by decide +kernel) _ _ [] rfl (inR_lo (by decide) (by decide) _ p rfl h) (fun i hi => by cases hi)
theorem ev_in {m M t : Rat} {p : List Rat} (h0 : 0 ≤ t) (h1 : t ≤ 1) (hl : 0 < p.length) (h : inR m M p) : m ≤ evP p t ∧ evP p t ≤ M := inR_lo h0 h1 _ p rfl h _ (by rw [loF_len]; omega)
section
variable {m M a b : Rat} {U V : Nat} {c : List Rat} (hc : c.length = (U + 1) * (V + 1)) (h0 : 0 ≤ a) (hab : a ≤ b) (hb : b ≤ 1) (h : ∀ x ∈ c, m ≤ x ∧ x ≤ M)
theorem ptW_in (h0 : 0 ≤ a) (hab : a ≤ b) (hb : b ≤ 1) (h : ∀ x ∈ c, m ≤ x ∧ x ≤ M) : ∀ x ∈ ptW V U c a b, m ≤ x ∧ x ≤ M :=
  rs_mem (fun i _ => inR_mem (part_in h0 hab hb (inR_of fun x hx => h x (rwL_mem hx)))) (Nat.le_refl _)
theorem rsU_len (hc : c.length = (U + 1) * (V + 1)) (a b : Rat) : (rsL (fun p => partB p a b) U (swL U V c) (V + 1)).length = (V + 1) * (U + 1) :=
  rsL_len (W := U) (U := V) (fun i hi => by rw [partB_len, rwL_len (swL_len U V c) hi]) _ (Nat.le_refl _)
theorem ptW_len (hc : c.length = (U + 1) * (V + 1)) (a b : Rat) : (ptW V U c a b).length = (U + 1) * (V + 1) :=
  rsL_len (W := V) (U := U) (fun i hi => by rw [partB_len, rwL_len hc hi]) _ (Nat.le_refl _)
theorem ptU_in (hc : c.length = (U + 1) * (V + 1)) (h0 : 0 ≤ a) (hab : a ≤ b) (hb : b ≤ 1) (h : ∀ x ∈ c, m ≤ x ∧ x ≤ M) : ∀ x ∈ ptU U V c a b, m ≤ x ∧ x ≤ M := fun x hx =>
  ptW_in (V := U) (U := V) h0 hab hb (fun y hy => h y (sw_mem hc hy)) x (sw_mem (rsU_len hc a b) hx)
theorem evT_in {u v : Rat} (hc : c.length = (U + 1) * (V + 1)) (hu0 : 0 ≤ u) (hu1 : u ≤ 1) (hv0 : 0 ≤ v) (hv1 : v ≤ 1) (h : ∀ x ∈ c, m ≤ x ∧ x ≤ M) : m ≤ evT U V c u v ∧ evT U V c u v ≤ M :=
  ev_in hv0 hv1 (by rw [rowT_len]; omega) (inR_of (rs_mem (U := V) (fun i hi x hx => by
    rw [List.mem_singleton.1 hx]
    exact ev_in hu0 hu1 (by rw [rwL_len (swL_len U V c) hi]; omega) (inR_of fun x hx => h x (sw_mem hc (rwL_mem hx)))) (Nat.le_refl _)))
theorem part_first (hc : c.length = (U + 1) * (V + 1)) (a b v w : Rat) : (ptW V U (ptU U V c a b) v w).getD 0 0 = evT U V c a v := by
  have hl := ptU_len U V c a b
  have h1 := rs_get (g := fun p => partB p v w) (V := V) (W := V) (U := U) (c := ptU U V c a b) (fun i hi => by rw [partB_len, rwL_len hl hi]) (i := 0) (j := 0) (Nat.zero_le _) (n := U + 1) (Nat.le_refl _) (by omega)
  rw [Nat.zero_mul, Nat.zero_add] at h1
  rw [ptW, h1, part0 (by rw [rwL_len hl (Nat.zero_le _)]; omega), evT]
  congr 1
  refine ext0 (by rw [rwL_len hl (Nat.zero_le _), rowT_len]) fun j hj => ?_
  rw [rwL_len hl (Nat.zero_le _)] at hj
  rw [rwL_get hl (Nat.zero_le _) (by omega), ptU, sw_get (U := V) (V := U) (i := j) (j := 0) (by omega) (by omega)]
  have h2 := rs_get (g := fun p => partB p a b) (V := U) (W := U) (U := V) (c := swL U V c) (fun i hi => by rw [partB_len, rwL_len (swL_len U V c) hi]) (i := j) (j := 0) (Nat.zero_le _) (n := V + 1) (Nat.le_refl _) hj
  have h3 := rs_get (g := fun p => [evP p a]) (V := U) (W := 0) (U := V) (c := swL U V c) (fun i hi => rfl) (i := j) (j := 0) (Nat.le_refl _) (n := V + 1) (Nat.le_refl _) hj
  rw [h2, part0 (by rw [rwL_len (swL_len U V c) (by omega)]; omega)]
  rw [show j * (0 + 1) + 0 = j by omega] at h3
  rw [rowT, h3]; rfl
end
/-! ### sizes -/
theorem prt {p : List Rat} {a b : Rat} {R n : Nat} (h1 : ∀ x ∈ p, rl x ≤ R) (ha : rl a ≤ 1) (hb : rl b ≤ 1) (hR : 1 ≤ R) (hl : p.length ≤ n) (h4 : (3 * ((3 * R + 8) * 2 ^ n) + 8) * 2 ^ n ≤ 1073741824) :
    (1 - a ≠ 0 → HS p a ∧ HS (hiP p a) ((b - a) / (1 - a))) ∧ (1 - a = 0 → b ≠ 0 → HS p b ∧ HS (loP p b) (1 / b)) ∧ ∀ x ∈ partB p a b, rl x ≤ (3 * ((3 * R + 8) * 2 ^ n) + 8) * 2 ^ n := by
  have e1 := rl_sub 1 a
  have e2 := rl_sub b a
  have e3 := rl_div (b - a) (1 - a)
  have e4 := rl_div 1 b
  rw [show rl 1 = 1 from rfl] at e1 e4
  obtain ⟨s1, s2⟩ := lo_sz2 (R := R) (n := n) h1 (show rl a ≤ R by omega) hl
  obtain ⟨s3, s4⟩ := lo_sz2 (R := R) (n := n) h1 (show rl b ≤ R by omega) hl
  have hp : 1 ≤ 2 ^ n := Nat.one_le_two_pow
  have hS : 11 ≤ (3 * R + 8) * 2 ^ n := Nat.le_trans (show 11 ≤ 3 * R + 8 by omega) (Nat.le_mul_of_pos_right _ hp)
  have hR2 : R ≤ (3 * R + 8) * 2 ^ n := Nat.le_trans (show R ≤ 3 * R + 8 by omega) (Nat.le_mul_of_pos_right _ hp)
  generalize (3 * R + 8) * 2 ^ n = S at *
  have hT : 3 * S + 8 ≤ (3 * S + 8) * 2 ^ n := Nat.le_mul_of_pos_right _ hp
  have g1 : HS p a := hs_gen (R := S) (n := n) (fun x hx => Nat.le_trans (h1 x hx) hR2) (by omega) hl h4
  have g2 : HS p b := hs_gen (R := S) (n := n) (fun x hx => Nat.le_trans (h1 x hx) hR2) (by omega) hl h4
  refine ⟨fun _ => ⟨g1, hs_gen (R := S) (n := n) s2 (by omega) (by rw [hiP_len]; exact hl) h4⟩, fun _ _ => ⟨g2, hs_gen (R := S) (n := n) s3 (by omega) (by rw [loP_len]; exact hl) h4⟩, ?_⟩
  intro x hx
  unfold partB at hx
  split at hx
  · exact (lo_sz2 (R := S) (n := n) s2 (by omega) (by rw [hiP_len]; exact hl)).1 x hx
  · split at hx
    · exact (lo_sz2 (R := S) (n := n) s3 (by omega) (by rw [loP_len]; exact hl)).2 x hx
    · have := h1 x (List.mem_reverse.1 hx); omega
theorem evT_hs {U V : Nat} {c : List Rat} {u v : Rat} (hc : c.length = (U + 1) * (V + 1)) (hU : U ≤ 4) (hV : V ≤ 4) (h : ∀ x ∈ c, rl x ≤ 1) (hu : rl u ≤ 1) (hv : rl v ≤ 1) : (∀ j, j ≤ V → HS (rwL U (swL U V c) j) u) ∧ HS (rowT U V c u) v := by
  have h1 : ∀ j, j ≤ V → ∀ x ∈ rwL U (swL U V c) j, rl x ≤ 1 := fun j _ x hx => h x (sw_mem hc (rwL_mem hx))
  have h2 : ∀ j, j ≤ V → (rwL U (swL U V c) j).length = U + 1 := fun j hj => rwL_len (swL_len U V c) hj
  refine ⟨fun j hj => hs_gen (R := 1) (n := 5) (h1 j hj) hu (by rw [h2 j hj]; omega) (by decide), hs_gen (R := 352) (n := 5) ?_ (by omega) (by rw [rowT_len]; omega) (by decide)⟩
  exact rs_mem (U := V) (fun j hj x hx => by
    rw [List.mem_singleton.1 hx]
    exact getD_rl (S := 352) (by decide) (lo_sz2 (R := 1) (n := 5) (h1 j hj) hu (by rw [h2 j hj]; omega)).1 _) (Nat.le_refl _)
theorem mn_rl {a b : Rat} {R : Nat} (ha : rl a ≤ R) (hb : rl b ≤ R) : rl (mnR a b) ≤ R := by unfold mnR; split <;> assumption
theorem mx_rl {a b : Rat} {R : Nat} (ha : rl a ≤ R) (hb : rl b ≤ R) : rl (mxR a b) ≤ R := by unfold mxR; split <;> assumption
open H0 in
theorem c_FMin (a b : Rat) (h : rl a + rl b ≤ 34359738368) : CallP Tryz.prog 44 [ratL a, ratL b] (ratL (mnR a b)) := by
  refine fnP Tryz.func44 ?_
  refine zg12 ?_
  refine cp am2 (c_FRCmp _ _ (by omega)) ?_
  refine zg3 ?_
  refine wl_if rfl (fun h8r h8 => ?_) (fun h8r h8 => ?_)
  · have hE : mnR a b = b := if_pos (cmpR_neg.1 h8)
    refine zg8 ?_
    rw [hE]
    exact retC [] rfl rfl rfl (ratE.csize _) (ratL_all _) T33 (.pure (ratE.pure _))
  · have hE : mnR a b = a := if_neg (fun e => h8 (cmpR_neg.2 e))
    refine zg9 ?_
    rw [hE]
    exact retC [] rfl rfl rfl (ratE.csize _) (ratL_all _) T33 (.pure (ratE.pure _))
open H0 in
theorem c_FMax (a b : Rat) (h : rl a + rl b ≤ 34359738368) : CallP Tryz.prog 45 [ratL a, ratL b] (ratL (mxR a b)) := by
  refine fnP Tryz.func45 ?_
  refine zg12 ?_
  refine cp am2 (c_FRCmp _ _ (by omega)) ?_
  refine zg3 ?_
  refine wl_if rfl (fun h8r h8 => ?_) (fun h8r h8 => ?_)
  · have hE : mxR a b = b := if_pos (cmpR_pos.1 h8)
    refine zg8 ?_
    rw [hE]
    exact retC [] rfl rfl rfl (ratE.csize _) (ratL_all _) T33 (.pure (ratE.pure _))
  · have hE : mxR a b = a := if_neg (fun e => h8 (cmpR_pos.2 e))
    refine zg9 ?_
    rw [hE]
    exact retC [] rfl rfl rfl (ratE.csize _) (ratL_all _) T33 (.pure (ratE.pure _))
namespace H_c_TBnd
theorem zSm {p q : Prop} (k : q) (e : p = q := by simp only [e1, e2, e3, e4, p1, p2, p3, q1, q2, q3, l1, t0, t1, r1, r2, r3, r4, Nat.zero_add, Nat.reduceMul, Nat.reduceAdd, b1, b2, b3, b4, b5, b6, i1, i2, i3, i4, i5, i6, Nat.reduceBEq, dfq, ebk, kills_map ratE, ratL_kill, spL_kill, LV.kill, kills]; exact rfl) : p := e.mpr k
end H_c_TBnd
open H_c_TBnd in
theorem c_TBnd (u v : Int) (c : List Rat) (hl : c.length ≤ 1048576) (hpr : ∀ x ∈ c, rl x ≤ 137438953472) : CallP Tryz.prog 43 [.agg [iL u, iL v, .list 3 (c.map ratL)]] (spL (bndP c)) := by
  refine fnP Tryz.func43 ?_
  have ebk : True := trivial
  refine zg21 ?_
  refine wl_weak (Weak.kill _ 1) ?_
  refine lp1 (fun (k : Nat) L => ((((((St.mk L.slot (hp [(2, ⟨6, [spL (0, 0)], true⟩), (3, ⟨6, [spL (bkP c k)], true⟩)])).put (some 2) (.eptr 2 6 0 0)).put (some 3) (.eptr 3 6 0 0)).put (some 7) (.list 3 (c.map ratL))).put (some 8) (nI64 c.length)).put (some 9) (nI64 k))) (fun k => k ≤ c.length) (fun k => c.length - k) 0 (Nat.zero_le _) ?_
  rintro k L1 hk
  refine zg6 ?_
  refine wl_if rfl (fun h10r h10 => ?_) (fun h10r h10 => ?_)
  · have hk2 : k < c.length := by omega
    have hr1 := getD_rl' (R := 137438953472) (by decide) hpr
    have hr2 := hr1 k
    have hr3 := bk_rl (by decide) hr1 k
    have hr4 : rl ((c.getD k 0, c.getD k 0) : Rat × Rat).1 ≤ 137438953472 := hr2
    have hr5 : rl ((c.getD k 0, c.getD k 0) : Rat × Rat).2 ≤ 137438953472 := hr2
    have ebk : bkP c (k + 1) = hulP (if k = 0 then (c.getD k 0, c.getD k 0) else bkP c k) (c.getD k 0, c.getD k 0) := rfl
    refine zg21 ?_
    refine wl_if rfl (fun h15r h15 => ?_) (fun h15r h15 => ?_)
    · have hk0 : k = 0 := by omega
      rw [if_pos hk0] at ebk
      refine zg2 ?_
      refine cp am1 (c_SPoint _ (by omega)) ?_
      refine zg3 ?_
      refine wl_regD 4 (by decide +kernel) ?_
      refine zg2 ?_
      refine cp am1 (c_SPoint _ (by omega)) ?_
      refine cp am2 (c_SHull _ _ (by omega) (by omega)) ?_
      refine zg4 ?_
      refine wl_regW (Weak.kill _ 5) ?_
      refine zg4 ?_
      exact nx1 (k + 1) (by omega)
    · have hk0 : ¬ k = 0 := by omega
      rw [if_neg hk0] at ebk
      refine zg2 ?_
      refine wl_regD 4 (by decide +kernel) ?_
      refine zg2 ?_
      refine cp am1 (c_SPoint _ (by omega)) ?_
      refine cp am2 (c_SHull _ _ (by omega) (by omega)) ?_
      refine zg4 ?_
      refine wl_regW (Weak.kill _ 5) ?_
      refine zg4 ?_
      exact nx1 (k + 1) (by omega)
  · obtain rfl : k = c.length := by omega
    refine zg12 ?_
    exact retC [] rfl rfl rfl (spE.csize _) (spL_all _) T55 (.pure (spE.pure _))
open H0 in
theorem c_PU1 (p : List Rat) (a b : Rat) (hp0 : 0 < p.length) (hl : p.length ≤ 1048576) (hpr : ∀ x ∈ p, rl x ≤ 274877906944) (hab : rl a + rl b ≤ 1073741824) (g1 : 1 - a ≠ 0 → HS p a ∧ HS (hiP p a) ((b - a) / (1 - a))) (g2 : 1 - a = 0 → b ≠ 0 → HS p b ∧ HS (loP p b) (1 / b)) : CallP Tryz.prog 97 [.list 3 (p.map ratL), .boxp (ratL a), .boxp (ratL b)] (.list 3 ((partB p a b).map ratL)) := by
  refine fnP Tryz.func97 ?_
  refine zg10 ?_
  refine cp am3 (c_Part p a b hp0 hl hpr hab g1 g2) ?_
  refine zg4 ?_
  exact ret1 rfl (by first | exact .pure rfl | exact .pure (limL_pure _) | exact .pure (magL_pure _) | exact .pure (ratE.pure _) | exact .pure (pure_lst u32E _ _) | exact .pure (pure_lst ratE _ _))
open H0 in
theorem c_PV1 (p : List Rat) (a b : Rat) (hp0 : 0 < p.length) (hl : p.length ≤ 1048576) (hpr : ∀ x ∈ p, rl x ≤ 274877906944) (hab : rl a + rl b ≤ 1073741824) (g1 : 1 - a ≠ 0 → HS p a ∧ HS (hiP p a) ((b - a) / (1 - a))) (g2 : 1 - a = 0 → b ≠ 0 → HS p b ∧ HS (loP p b) (1 / b)) : CallP Tryz.prog 99 [.list 3 (p.map ratL), .boxp (ratL a), .boxp (ratL b)] (.list 3 ((partB p a b).map ratL)) := by
  refine fnP Tryz.func99 ?_
  refine zg10 ?_
  refine cp am3 (c_Part p a b hp0 hl hpr hab g1 g2) ?_
  refine zg4 ?_
  exact ret1 rfl (by first | exact .pure rfl | exact .pure (limL_pure _) | exact .pure (magL_pure _) | exact .pure (ratE.pure _) | exact .pure (pure_lst u32E _ _) | exact .pure (pure_lst ratE _ _))
open H0 in
theorem c_PartU (U V : Nat) (c : List Rat) (hc : c.length = (U + 1) * (V + 1)) (hl : c.length ≤ 1048576) (a b : Rat) (R n : Nat) (hcR : ∀ x ∈ c, rl x ≤ R) (ha : rl a ≤ 1) (hb : rl b ≤ 1) (hR : 1 ≤ R) (hn : U + 1 ≤ n) (h4 : ((3 * ((3 * R + 8) * 2 ^ n) + 8) * 2 ^ n) ≤ 1073741824) : CallP Tryz.prog 23 [.agg [nI64 U, nI64 V, .list 3 (c.map ratL)], ratL a, ratL b] (.agg [nI64 U, nI64 V, .list 3 ((ptU U V c a b).map ratL)]) := by
  have hU1 : U + 1 ≤ c.length := by rw [hc]; exact Nat.le_mul_of_pos_right _ (Nat.succ_pos V)
  have hV1 : V + 1 ≤ c.length := by rw [hc]; exact Nat.le_mul_of_pos_left _ (Nat.succ_pos U)
  have hnp := net_pureN U V c
  have hbp : pures [LV.boxp (ratL a), LV.boxp (ratL b)] = true := by simp [pures, LV.pure, ratE.pure]
  have hp2 : 1 ≤ 2 ^ n := Nat.one_le_two_pow
  have hS0 := Nat.le_mul_of_pos_right (3 * R + 8) hp2
  have hS1 := Nat.le_mul_of_pos_right (3 * ((3 * R + 8) * 2 ^ n) + 8) hp2
  have hcR2 : ∀ x ∈ c, rl x ≤ 274877906944 := fun x hx => by have := hcR x hx; omega
  have hq : ∀ j, j ≤ V → (rwL U (swL U V c) j).length = U + 1 := fun j hj => rwL_len (swL_len U V c) hj
  have hqR : ∀ j, j ≤ V → ∀ x ∈ rwL U (swL U V c) j, rl x ≤ R := fun j _ x hx => hcR x (sw_mem hc (rwL_mem hx))
  have hP := fun (j : Nat) (hj : j ≤ V) => prt (hqR j hj) ha hb hR (by rw [hq j hj]; exact hn) h4
  refine fnP Tryz.func23 (ht := (fun g => LV.ren_pure g _ (net_pureN _ _ _))) ?_
  refine zg11 ?_
  refine st_opc [4, 5] rfl rfl (.mk (caps := [.boxp (ratL a), .boxp (ratL b)]) (.cons (.eptr rfl rfl rfl (ratE.csize _) (ratL_all _) (ratE.pure _) rfl) (.cons (.eptr rfl rfl rfl (ratE.csize _) (ratL_all _) (ratE.pure _) rfl) .nil)) (fun x hx => by simp only [List.mem_cons, List.not_mem_nil, or_false] at hx; rcases hx with rfl | rfl <;> exact ⟨rfl, rfl⟩)) rfl ?_
  refine st_callP rfl (.cons (.pure hnp) (.cons (.pure (show LV.pure (.clo 97 [.boxp (ratL a), .boxp (ratL b)]) = true by simpa [LV.pure] using hbp)) .nil)) (c_columns U V c hc hl hcR2 97 [.boxp (ratL a), .boxp (ratL b)] hbp (fun x hx => by simp only [List.mem_cons, List.not_mem_nil, or_false] at hx; rcases hx with rfl | rfl <;> exact ⟨rfl, rfl⟩) (fun p => partB p a b) U (fun j hj => c_PU1 _ a b (by rw [hq j hj]; omega) (by rw [hq j hj]; omega) (fun x hx => by have := hqR j hj x hx; omega) (by omega) (hP j hj).1 (hP j hj).2.1) (fun j hj => by rw [partB_len, hq j hj]) (by rw [Nat.mul_comm, ← hc]; exact hl) (rs_mem (U := V) (fun j hj x hx => by have := (hP j hj).2.2 x hx; omega) (Nat.le_refl _))) ?_
  refine zg4 ?_
  exact retC [] rfl rfl rfl rfl rfl T27 (.pure (net_pureN _ _ _))
open H0 in
theorem c_PartV (U V : Nat) (c : List Rat) (hc : c.length = (U + 1) * (V + 1)) (hl : c.length ≤ 1048576) (a b : Rat) (R n : Nat) (hcR : ∀ x ∈ c, rl x ≤ R) (ha : rl a ≤ 1) (hb : rl b ≤ 1) (hR : 1 ≤ R) (hn : V + 1 ≤ n) (h4 : ((3 * ((3 * R + 8) * 2 ^ n) + 8) * 2 ^ n) ≤ 1073741824) : CallP Tryz.prog 25 [.agg [nI64 U, nI64 V, .list 3 (c.map ratL)], ratL a, ratL b] (.agg [nI64 U, nI64 V, .list 3 ((ptW V U c a b).map ratL)]) := by
  have hU1 : U + 1 ≤ c.length := by rw [hc]; exact Nat.le_mul_of_pos_right _ (Nat.succ_pos V)
  have hV1 : V + 1 ≤ c.length := by rw [hc]; exact Nat.le_mul_of_pos_left _ (Nat.succ_pos U)
  have hnp := net_pureN U V c
  have hbp : pures [LV.boxp (ratL a), LV.boxp (ratL b)] = true := by simp [pures, LV.pure, ratE.pure]
  have hp2 : 1 ≤ 2 ^ n := Nat.one_le_two_pow
  have hS0 := Nat.le_mul_of_pos_right (3 * R + 8) hp2
  have hS1 := Nat.le_mul_of_pos_right (3 * ((3 * R + 8) * 2 ^ n) + 8) hp2
  have hcR2 : ∀ x ∈ c, rl x ≤ 274877906944 := fun x hx => by have := hcR x hx; omega
  have hq : ∀ j, j ≤ U → (rwL V c j).length = V + 1 := fun j hj => rwL_len hc hj
  have hqR : ∀ j, j ≤ U → ∀ x ∈ rwL V c j, rl x ≤ R := fun j _ x hx => hcR x (rwL_mem hx)
  have hP := fun (j : Nat) (hj : j ≤ U) => prt (hqR j hj) ha hb hR (by rw [hq j hj]; exact hn) h4
  refine fnP Tryz.func25 (ht := (fun g => LV.ren_pure g _ (net_pureN _ _ _))) ?_
  refine zg11 ?_
  refine st_opc [4, 5] rfl rfl (.mk (caps := [.boxp (ratL a), .boxp (ratL b)]) (.cons (.eptr rfl rfl rfl (ratE.csize _) (ratL_all _) (ratE.pure _) rfl) (.cons (.eptr rfl rfl rfl (ratE.csize _) (ratL_all _) (ratE.pure _) rfl) .nil)) (fun x hx => by simp only [List.mem_cons, List.not_mem_nil, or_false] at hx; rcases hx with rfl | rfl <;> exact ⟨rfl, rfl⟩)) rfl ?_
  refine st_callP rfl (.cons (.pure hnp) (.cons (.pure (show LV.pure (.clo 99 [.boxp (ratL a), .boxp (ratL b)]) = true by simpa [LV.pure] using hbp)) .nil)) (c_rows U V c hc hl 99 [.boxp (ratL a), .boxp (ratL b)] hbp (fun x hx => by simp only [List.mem_cons, List.not_mem_nil, or_false] at hx; rcases hx with rfl | rfl <;> exact ⟨rfl, rfl⟩) (fun p => partB p a b) V (fun j hj => c_PV1 _ a b (by rw [hq j hj]; omega) (by rw [hq j hj]; omega) (fun x hx => by have := hqR j hj x hx; omega) (by omega) (hP j hj).1 (hP j hj).2.1) (fun j hj => by rw [partB_len, hq j hj]) (by rw [← hc]; exact hl)) ?_
  refine zg4 ?_
  exact retC [] rfl rfl rfl rfl rfl T27 (.pure (net_pureN _ _ _))
namespace H_c_TensorHull
theorem zSm {p q : Prop} (k : q) (e : p = q := by simp only [e1, e2, e3, e4, p1, p2, p3, q1, q2, q3, l1, t0, t1, r1, r2, r3, r4, Nat.zero_add, Nat.reduceMul, Nat.reduceAdd, b1, b2, b3, b4, b5, b6, i1, i2, i3, i4, i5, i6, Nat.reduceBEq, dfq, r1r, tz0, hpl, hcl, kills_map ratE, ratL_kill, spL_kill, LV.kill, kills, dice_kill]; exact rfl) : p := e.mpr k
end H_c_TensorHull
open H_c_TensorHull in
theorem c_TensorHull (l : List Int) (i j k : Int) (hl : l.length ≤ 9223372036854775807 ∧ ∀ n ∈ l, -9223372036854775808 ≤ n ∧ n ≤ 9223372036854775807) (hi : -9223372036854775808 ≤ i ∧ i ≤ 9223372036854775807) (hj : -9223372036854775808 ≤ j ∧ j ≤ 9223372036854775807) (hk : -9223372036854775808 ≤ k ∧ k ≤ 9223372036854775807) : CallP Tryz.prog 5 [.list 1 (l.map i64L), iL i, iL j, iL k] (bL true) := by
  have hU : (nU l 0 4) ≤ 4 := nU_le _ _ _
  have hV : (nU l (nxK l 0) 4) ≤ 4 := nU_le _ _ _
  have hcl := ntC_len l 0 4 4
  have hcR := ntC_rl l 0 4 4
  have hlen : (ntC l 0 4 4).length ≤ 25 := by rw [hcl]; exact Nat.le_trans (Nat.mul_le_mul (show (nU l 0 4) + 1 ≤ 5 by omega) (show (nU l (nxK l 0) 4) + 1 ≤ 5 by omega)) (by decide)
  have hu := ptV_in i
  have hv := ptV_in j
  have hw := ptV_in k
  have ru := ptV_rl i
  have rv := ptV_rl j
  have rw_ := ptV_rl k
  have ra := mn_rl ru rw_
  have rb := mx_rl ru rw_
  have ea := mn_le (ptV i) (ptV k)
  have eb := mx_ge (ptV i) (ptV k)
  have h0a : 0 ≤ (mnR (ptV i) (ptV k)) := by rcases ea.2.2 with e | e <;> rw [e]; exact hu.1; exact hw.1
  have hb1 : (mxR (ptV i) (ptV k)) ≤ 1 := by rcases eb.2.2 with e | e <;> rw [e]; exact hu.2; exact hw.2
  have hab : (mnR (ptV i) (ptV k)) ≤ (mxR (ptV i) (ptV k)) := Rat.le_trans ea.1 eb.1
  have ha1 : (mnR (ptV i) (ptV k)) ≤ 1 := Rat.le_trans hab hb1
  have hPU := c_PartU (nU l 0 4) (nU l (nxK l 0) 4) (ntC l 0 4 4) hcl (by omega) (mnR (ptV i) (ptV k)) (mxR (ptV i) (ptV k)) 1 5 hcR ra rb (by decide) (by omega) (by decide)
  have hpul := ptU_len (nU l 0 4) (nU l (nxK l 0) 4) (ntC l 0 4 4) (mnR (ptV i) (ptV k)) (mxR (ptV i) (ptV k))
  have hpuR : ∀ x ∈ (ptU (nU l 0 4) (nU l (nxK l 0) 4) (ntC l 0 4 4) (mnR (ptV i) (ptV k)) (mxR (ptV i) (ptV k))), rl x ≤ 34048 := fun x hx => rs_mem (U := (nU l (nxK l 0) 4)) (fun j hj => (prt (R := 1) (n := 5) (fun x hx => hcR x (sw_mem hcl (rwL_mem hx))) ra rb (by decide) (by rw [rwL_len (swL_len _ _ _) hj]; omega) (by decide)).2.2) (Nat.le_refl _) x (sw_mem (rsU_len hcl _ _) hx)
  have hPV := c_PartV (nU l 0 4) (nU l (nxK l 0) 4) (ptU (nU l 0 4) (nU l (nxK l 0) 4) (ntC l 0 4 4) (mnR (ptV i) (ptV k)) (mxR (ptV i) (ptV k))) hpul (by rw [hpul, ← hcl]; omega) (ptV j) 1 34048 5 hpuR rv (by decide) (by decide) (by omega) (by decide)
  have hpl := ptW_len hpul (ptV j) 1
  have hppR : ∀ x ∈ (ptW (nU l (nxK l 0) 4) (nU l 0 4) (ptU (nU l 0 4) (nU l (nxK l 0) 4) (ntC l 0 4 4) (mnR (ptV i) (ptV k)) (mxR (ptV i) (ptV k))) (ptV j) 1), rl x ≤ 313811200 := rs_mem (U := (nU l 0 4)) (fun j hj => (prt (R := 34048) (n := 5) (fun x hx => hpuR x (rwL_mem hx)) rv (by decide) (by decide) (by rw [rwL_len hpul hj]; omega) (by decide)).2.2) (Nat.le_refl _)
  obtain ⟨hS1, hS2⟩ := evT_hs hcl hU hV hcR ru rv
  obtain ⟨hS3, hS4⟩ := evT_hs hcl hU hV hcR ra rv
  have her := hS2.ev
  have hcb := inR_mem (inR_bnd (ntC l 0 4 4))
  have hpp0 : 0 < (ptW (nU l (nxK l 0) 4) (nU l 0 4) (ptU (nU l 0 4) (nU l (nxK l 0) 4) (ntC l 0 4 4) (mnR (ptV i) (ptV k)) (mxR (ptV i) (ptV k))) (ptV j) 1).length := by rw [hpl]; exact Nat.mul_pos (Nat.succ_pos _) (Nat.succ_pos _)
  have hppin := ptW_in (V := (nU l (nxK l 0) 4)) (U := (nU l 0 4)) hv.1 hv.2 (by decide) (ptU_in hcl h0a hab hb1 hcb)
  have b1r := bnd_rl (R := 1) (by decide) hcR
  have b2r := bnd_rl (R := 313811200) (by decide) hppR
  have hc0 : ∀ x ∈ (ntC l 0 4 4), rl x ≤ 274877906944 := fun x hx => Nat.le_trans (hcR x hx) (by decide)
  have hfr := getD_rl (S := 313811200) (by decide) hppR 0
  have hls : (ptW (nU l (nxK l 0) 4) (nU l 0 4) (ptU (nU l 0 4) (nU l (nxK l 0) 4) (ntC l 0 4 4) (mnR (ptV i) (ptV k)) (mxR (ptV i) (ptV k))) (ptV j) 1).length = (ntC l 0 4 4).length := hpl.trans hcl.symm
  have hn1 := net_pureN (nU l 0 4) (nU l (nxK l 0) 4) (ntC l 0 4 4)
  have hn2 := net_pureN (nU l 0 4) (nU l (nxK l 0) 4) (ptU (nU l 0 4) (nU l (nxK l 0) 4) (ntC l 0 4 4) (mnR (ptV i) (ptV k)) (mxR (ptV i) (ptV k)))
  have hn3 := net_pureN (nU l 0 4) (nU l (nxK l 0) 4) (ptW (nU l (nxK l 0) 4) (nU l 0 4) (ptU (nU l 0 4) (nU l (nxK l 0) 4) (ntC l 0 4 4) (mnR (ptV i) (ptV k)) (mxR (ptV i) (ptV k))) (ptV j) 1)
  refine fnP Tryz.func5 ?_
  refine zg9 ?_
  refine cp am1 (c_Light l (by omega)) ?_
  refine zg3 ?_
  refine wl_if rfl (fun h17r h17 => ?_) (fun h17r h17 => ?_)
  · refine zg2 ?_
    refine cp am0 (c_awake7) ?_
    refine zg5 ?_
    exact ret1 rfl (by first | exact .pure rfl | exact .pure (limL_pure _) | exact .pure (magL_pure _) | exact .pure (ratE.pure _) | exact .pure (pure_lst u32E _ _) | exact .pure (pure_lst ratE _ _))
  · refine zg5 ?_
    refine st_call1 [] rfl rfl (.cons im0 .nil) (c_Roll l) (dice_pure l 0) rfl ?_
    refine st_callMp 1000321 rfl rfl rfl (dice_pure l _) (.cons .ptr (.cons (.imm (.pure rfl)) (.cons (.imm (.pure rfl)) .nil))) .ptr (c_Net l 0 4 4 (by omega) (by omega) (by decide) (by decide)) rfl (dice_pure l _) (net_pureN _ _ _) ?_
    refine zg7 ?_
    refine cp am1 (c_MPart i hi) ?_
    refine zg1 ?_
    refine cp am1 (c_MPart j hj) ?_
    refine zg1 ?_
    refine cp am1 (c_MPart k hk) ?_
    refine zg11 ?_
    refine cp am1 (c_TBnd (nU l 0 4) (nU l (nxK l 0) 4) (ntC l 0 4 4) (by omega) (fun x hx => Nat.le_trans (hcR x hx) (by decide))) ?_
    refine zg5 ?_
    refine wl_regD 12 (by decide +kernel) ?_
    refine zg3 ?_
    refine cp am2 (c_FMin _ _ (by omega)) ?_
    refine zg2 ?_
    refine cp am2 (c_FMax _ _ (by omega)) ?_
    refine cp am3 (hPU) ?_
    refine zg1 ?_
    refine cp am1 (c_FInt 1 (by decide) (by decide)) ?_
    refine cp am3 (hPV) ?_
    refine zg16 ?_
    refine wl_condY (b := _) rfl (by simp) ?_
    refine zg3 ?_
    refine wl_regD 29 (by decide +kernel) ?_
    refine zg4 ?_
    refine cp am3 (c_TEval (nU l 0 4) (nU l (nxK l 0) 4) (ntC l 0 4 4) hcl (by omega) hc0 (ptV i) (ptV j) hS1 hS2) ?_
    refine cp am2 (c_FHas (bndP (ntC l 0 4 4)) (evT (nU l 0 4) (nU l (nxK l 0) 4) (ntC l 0 4 4) (ptV i) (ptV j)) (by have := hS2.ev; unfold evT; omega) (by have := hS2.ev; unfold evT; omega)) ?_
    refine zg1 ?_
    refine st_pure (guardX (v := true) rfl rfl ((has_bnd (evT_in hcl hu.1 hu.2 hv.1 hv.2 hcb))) rfl) ld27 ?_
    refine st_callP (guardX (v := true) rfl rfl ((has_bnd (evT_in hcl hu.1 hu.2 hv.1 hv.2 hcb))) rfl) (.cons im0 .nil) (c_TBnd (nU l 0 4) (nU l (nxK l 0) 4) (ptW (nU l (nxK l 0) 4) (nU l 0 4) (ptU (nU l 0 4) (nU l (nxK l 0) 4) (ntC l 0 4 4) (mnR (ptV i) (ptV k)) (mxR (ptV i) (ptV k))) (ptV j) 1) (by omega) (fun x hx => Nat.le_trans (hppR x hx) (by decide))) ?_
    refine st_pure (guardX (v := true) rfl rfl ((has_bnd (evT_in hcl hu.1 hu.2 hv.1 hv.2 hcb))) rfl) ld55 ?_
    refine st_callP (guardX (v := true) rfl rfl ((has_bnd (evT_in hcl hu.1 hu.2 hv.1 hv.2 hcb))) rfl) (.cons im0 (.cons im0 .nil)) (c_FInside (bndP (ptW (nU l (nxK l 0) 4) (nU l 0 4) (ptU (nU l 0 4) (nU l (nxK l 0) 4) (ntC l 0 4 4) (mnR (ptV i) (ptV k)) (mxR (ptV i) (ptV k))) (ptV j) 1)) (bndP (ntC l 0 4 4)) (by omega) (by omega) (by omega) (by omega)) ?_
    refine st_pure rfl (.pickT rfl ((has_bnd (evT_in hcl hu.1 hu.2 hv.1 hv.2 hcb)))) ?_
    refine zg1 ?_
    refine st_pure (guardX (v := true) rfl rfl ((ins_bnd hpp0 (inR_of hppin))) rfl) fa27 ?_
    refine st_pure (guardX (v := true) rfl rfl ((ins_bnd hpp0 (inR_of hppin))) rfl) ld25 ?_
    refine st_pure (guardX (v := true) rfl rfl ((ins_bnd hpp0 (inR_of hppin))) rfl) ix25 ?_
    refine st_pure (guardX (v := true) rfl rfl ((ins_bnd hpp0 (inR_of hppin))) rfl) ld33 ?_
    refine st_pure (guardX (v := true) rfl rfl ((ins_bnd hpp0 (inR_of hppin))) rfl) ld27 ?_
    refine st_pure (guardX (v := true) rfl rfl ((ins_bnd hpp0 (inR_of hppin))) rfl) ld33 ?_
    refine st_pure (guardX (v := true) rfl rfl ((ins_bnd hpp0 (inR_of hppin))) rfl) ld33 ?_
    refine st_callP (guardX (v := true) rfl rfl ((ins_bnd hpp0 (inR_of hppin))) rfl) (.cons im0 (.cons im0 .nil)) (c_FMin _ _ (by omega)) ?_
    refine st_pure (guardX (v := true) rfl rfl ((ins_bnd hpp0 (inR_of hppin))) rfl) ld33 ?_
    refine st_callP (guardX (v := true) rfl rfl ((ins_bnd hpp0 (inR_of hppin))) rfl) (.cons im0 (.cons im0 (.cons im0 .nil))) (c_TEval (nU l 0 4) (nU l (nxK l 0) 4) (ntC l 0 4 4) hcl (by omega) hc0 (mnR (ptV i) (ptV k)) (ptV j) hS3 hS4) ?_
    refine st_callP (guardX (v := true) rfl rfl ((ins_bnd hpp0 (inR_of hppin))) rfl) (.cons im0 (.cons im0 .nil)) (c_FSame ((ptW (nU l (nxK l 0) 4) (nU l 0 4) (ptU (nU l 0 4) (nU l (nxK l 0) 4) (ntC l 0 4 4) (mnR (ptV i) (ptV k)) (mxR (ptV i) (ptV k))) (ptV j) 1).getD 0 0) (evT (nU l 0 4) (nU l (nxK l 0) 4) (ntC l 0 4 4) (mnR (ptV i) (ptV k)) (ptV j)) (by have := hS4.ev; unfold evT; omega)) ?_
    refine st_pure rfl (.pickT rfl ((ins_bnd hpp0 (inR_of hppin)))) ?_
    refine zg1 ?_
    refine st_callP (guardX (v := true) rfl rfl ((decide_eq_true (part_first hcl _ _ _ _))) rfl) .nil (c_awake7) ?_
    refine st_pure rfl (.pickT rfl ((decide_eq_true (part_first hcl _ _ _ _)))) ?_
    refine zg4 ?_
    exact ret1 rfl (by first | exact .pure rfl | exact .pure (limL_pure _) | exact .pure (magL_pure _) | exact .pure (ratE.pure _) | exact .pure (pure_lst u32E _ _) | exact .pure (pure_lst ratE _ _))
end Go.Proofs.YthhdcfhaldcheaaGreat
