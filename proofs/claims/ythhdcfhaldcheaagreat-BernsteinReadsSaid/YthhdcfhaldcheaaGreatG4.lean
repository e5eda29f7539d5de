/- The document's bounds, changes of sign, zero, equality, and polynomials out of powers. -/
import Derived.Test.YthhdcfhaldcheaaGreatG2
import Derived.Test.YthhdcfhaldcheaaGreatS2
import Derived.Test.YthhdcfhaldcheaaGreatE4
set_option linter.unusedVariables false
set_option linter.unusedSimpArgs false
set_option maxHeartbeats 8000000
set_option maxRecDepth 100000
attribute [local irreducible] Go.Lg.opsL Go.Lg.wpL Go.Lg.thenL Go.Lg.blockL
namespace Go.Proofs.YthhdcfhaldcheaaGreat
open Go.Lg
theorem bk_one {p : List Rat} : bkP p 1 = (p.getD 0 0, p.getD 0 0) := by
  show hulP (p.getD 0 0, p.getD 0 0) (p.getD 0 0, p.getD 0 0) = _
  rw [hulP, mn_self, mx_self]
theorem bk_next {p : List Rat} {k : Nat} (h : 0 < k) : bkP p (k + 1) = hulP (bkP p k) (p.getD k 0, p.getD k 0) := by
  show hulP (if k = 0 then _ else _) _ = _
  rw [if_neg (by omega)]
theorem sg_lt {x s : Int} (hx : x = 0 ∨ x = 1 ∨ x = -1) (hs : s = 0 ∨ s = 1 ∨ s = -1) (h1 : x ≠ 0) (h2 : s ≠ 0) (h3 : x ≠ s) : x * s < 0 := by
  rcases hx with rfl | rfl | rfl <;> rcases hs with rfl | rfl | rfl <;> first | omega | decide
theorem sg_ge {x s : Int} (hx : x = 0 ∨ x = 1 ∨ x = -1) (h : s = 0 ∨ x = s) : ¬ x * s < 0 := by
  rcases hx with rfl | rfl | rfl <;> rcases h with h | h <;> subst h <;> decide
theorem zer_hit {p : List Rat} {k : Nat} (hk : k < p.length) (h : ¬ sgnR (p.getD k 0) = 0) : (!(p.any fun x => sgnR x != 0)) = false := by
  rw [Bool.not_eq_false', List.any_eq_true]
  exact ⟨_, getD_mem hk, by simpa using h⟩
theorem zer_mis {p : List Rat} (h : ∀ i, i < p.length → sgnR (p.getD i 0) = 0) : (!(p.any fun x => sgnR x != 0)) = true := by
  rw [Bool.not_eq_true', List.any_eq_false]
  intro x hx
  obtain ⟨i, hi, rfl⟩ := List.getElem_of_mem hx
  have := h i hi
  rw [List.getD_eq_getElem?_getD, List.getElem?_eq_getElem hi] at this
  simpa using this
namespace H_c_FBounds
theorem zSm {p q : Prop} (k : q) (e : p = q := by simp only [e1, e2, e3, e4, p1, p2, p3, q1, q2, q3, l1, t0, t1, r1, r2, r3, r4, Nat.zero_add, Nat.reduceMul, Nat.reduceAdd, b1, b2, b3, b4, b5, b6, i1, i2, i3, i4, i5, i6, Nat.reduceBEq, dfq, tz0, ebk, kills_map ratE, ratL_kill, spL_kill, LV.kill, kills]; exact rfl) : p := e.mpr k
end H_c_FBounds
open H_c_FBounds in
theorem c_FBounds (p : List Rat) (hp0 : 0 < p.length) (hl : p.length ≤ 1048576) (hpr : ∀ x ∈ p, rl x ≤ 8589934592) : CallP Tryz.prog 60 [.list 3 (p.map ratL)] (spL (bndP p)) := by
  refine fnP Tryz.func60 ?_
  have ebk : True := trivial
  refine zg10 ?_
  refine cp am1 (c_FPoint _) ?_
  refine zg11 ?_
  refine lp1 (fun (i : Nat) L => (((((St.mk L.slot (hp [(2, ⟨6, [spL (0, 0)], true⟩), (3, ⟨6, [spL (bkP p i)], true⟩)])).put (some 0) (.list 3 (p.map ratL))).put (some 2) (.eptr 2 6 0 0)).put (some 3) (.eptr 3 6 0 0)).put (some 4) (nI64 i))) (fun i => 1 ≤ i ∧ i ≤ p.length) (fun i => p.length - i) 1 ⟨Nat.le_refl _, hp0⟩ (h0 := ⟨_, Weak.of_eq (put_id' (put_id' (put_id' (put_id' (mk_id' (by rw [bk_one]; exact cl)) cl) cl) cl) cl)⟩) ?_
  rintro i L1 ⟨hi1, hi⟩
  refine zg9 ?_
  refine wl_if rfl (fun h12r h12 => ?_) (fun h12r h12 => ?_)
  · have hi2 : i < p.length := by omega
    have ebk := bk_next (p := p) hi1
    have hr1 := getD_rl (S := 8589934592) (by decide) hpr
    have hr2 := hr1 i
    have hr3 := bk_rl (by decide) hr1 i
    have hr4 : rl ((p.getD i 0, p.getD i 0) : Rat × Rat).1 ≤ 8589934592 := hr2
    have hr5 : rl ((p.getD i 0, p.getD i 0) : Rat × Rat).2 ≤ 8589934592 := hr2
    refine zg4 ?_
    refine wl_regD 7 (by decide +kernel) ?_
    refine zg5 ?_
    refine cp am1 (c_FPoint _) ?_
    refine cp am2 (c_FHull (bkP p i) (p.getD i 0, p.getD i 0) (by omega) (by omega)) ?_
    refine zg6 ?_
    refine st_pure rfl (.bin rfl rfl (add1N (by omega))) ?_
    refine zg3 ?_
    exact nx1 (i + 1) ⟨by omega, by omega⟩
  · obtain rfl : i = p.length := by omega
    refine zg12 ?_
    exact retC [] rfl rfl rfl (spE.csize _) (spL_all _) T55 (.pure (spE.pure _))
namespace H_c_FVariations
theorem zSm {p q : Prop} (k : q) (e : p = q := by simp only [e1, e2, e3, e4, p1, p2, p3, q1, q2, q3, l1, t0, t1, r1, r2, r3, r4, Nat.zero_add, Nat.reduceMul, Nat.reduceAdd, b1, b2, b3, b4, b5, b6, i1, i2, i3, i4, i5, i6, Nat.reduceBEq, dfq, kills_map ratE, ratL_kill, spL_kill, LV.kill, kills]; exact rfl) : p := e.mpr k
end H_c_FVariations
open H_c_FVariations in
theorem c_FVariations (p : List Rat) (hl : p.length ≤ 1048576) : CallP Tryz.prog 62 [.list 3 (p.map ratL)] (nI64 (vrR p)) := by
  refine fnP Tryz.func62 ?_
  refine zg18 ?_
  refine lp3 (fun (k : Nat) (s : Int) (m : Nat) L => (((((St.mk L.slot (hp [])).put (some 0) (.list 3 (p.map ratL))).put (some 3) (nI64 m)).put (some 4) (iL s)).put (some 5) (nI64 k))) (fun k s m => k ≤ p.length ∧ (s = 0 ∨ s = 1 ∨ s = -1) ∧ m ≤ k ∧ m + vrs s ((p.drop k).map sgnR) = vrR p) (fun k s m => p.length - k) 0 0 0 ⟨Nat.zero_le _, .inl rfl, Nat.le_refl _, by simp [vrR]⟩ ?_
  rintro k s m L1 ⟨hk, hs3, hmk, hv⟩
  refine zg9 ?_
  refine wl_if rfl (fun h10r h10 => ?_) (fun h10r h10 => ?_)
  · have hk2 : k < p.length := by omega
    rw [vr_step hk2] at hv
    have hx3 := sgn3 (p.getD k 0)
    refine zg10 ?_
    refine cp am1 (c_FSign _) ?_
    refine zg10 ?_
    refine wl_if rfl (fun h19r h19 => ?_) (fun h19r h19 => ?_)
    · refine zg6 ?_
      refine st_pure rfl (.bin rfl rfl (add1N (by omega))) ?_
      refine zg3 ?_
      exact nx3 (k + 1) s m ⟨by omega, hs3, by omega, by rw [if_neg (show ¬ sgnR (p.getD k 0) * s < 0 by rw [show sgnR (p.getD k 0) = 0 from h19]; simp), if_neg (fun g => g h19)] at hv; omega⟩
    · refine zg8 ?_
      refine op_if 22 rfl (fun h22r h22 => ?_) (fun h22r h22 => ?_)
      · refine zg6 ?_
        refine wl_if rfl (fun h26r h26 => ?_) (fun h26r h26 => ?_)
        · refine zg2 ?_
          refine st_pure rfl (.bin rfl rfl (add1N (by omega))) ?_
          refine zg11 ?_
          refine st_pure rfl (.bin rfl rfl (add1N (by omega))) ?_
          refine zg3 ?_
          exact nx3 (k + 1) (sgnR (p.getD k 0)) (m + 1) ⟨by omega, hx3, by omega, by rw [if_pos (sg_lt hx3 hs3 h19 h22 h26), if_pos h19] at hv; omega⟩
        · refine zg10 ?_
          refine st_pure rfl (.bin rfl rfl (add1N (by omega))) ?_
          refine zg3 ?_
          exact nx3 (k + 1) (sgnR (p.getD k 0)) m ⟨by omega, hx3, by omega, by rw [if_neg (sg_ge hx3 (.inr h26)), if_pos h19] at hv; omega⟩
      · refine zg17 ?_
        refine st_pure rfl (.bin rfl rfl (add1N (by omega))) ?_
        refine zg3 ?_
        exact nx3 (k + 1) (sgnR (p.getD k 0)) m ⟨by omega, hx3, by omega, by rw [if_neg (sg_ge hx3 (.inl h22)), if_pos h19] at hv; omega⟩
  · obtain rfl : k = p.length := by omega
    rw [List.drop_length] at hv
    have hv2 : m = vrR p := hv
    refine zg12 ?_
    rw [← hv2]
    exact ret1 rfl (by first | exact .pure rfl | exact .pure (limL_pure _) | exact .pure (magL_pure _) | exact .pure (ratE.pure _) | exact .pure (pure_lst u32E _ _) | exact .pure (pure_lst ratE _ _))
namespace H_c_FZero
theorem zSm {p q : Prop} (k : q) (e : p = q := by simp only [e1, e2, e3, e4, p1, p2, p3, q1, q2, q3, l1, t0, t1, r1, r2, r3, r4, Nat.zero_add, Nat.reduceMul, Nat.reduceAdd, b1, b2, b3, b4, b5, b6, i1, i2, i3, i4, i5, i6, Nat.reduceBEq, dfq, kills_map ratE, ratL_kill, spL_kill, LV.kill, kills]; exact rfl) : p := e.mpr k
end H_c_FZero
open H_c_FZero in
theorem c_FZero (p : List Rat) (hl : p.length ≤ 1048576) : CallP Tryz.prog 70 [.list 3 (p.map ratL)] (bL (!(p.any fun x => sgnR x != 0))) := by
  refine fnP Tryz.func70 ?_
  refine zg12 ?_
  refine lp1 (fun (k : Nat) L => (((St.mk L.slot (hp [])).put (some 0) (.list 3 (p.map ratL))).put (some 3) (nI64 k))) (fun k => k ≤ p.length ∧ ∀ i, i < k → sgnR (p.getD i 0) = 0) (fun k => p.length - k) 0 ⟨Nat.zero_le _, fun i h => absurd h (Nat.not_lt_zero i)⟩ ?_
  rintro k L1 ⟨hk, hz⟩
  refine zg9 ?_
  refine wl_if rfl (fun h7r h7 => ?_) (fun h7r h7 => ?_)
  · have hk2 : k < p.length := by omega
    refine zg10 ?_
    refine cp am1 (c_FSign _) ?_
    refine zg3 ?_
    refine wl_if rfl (fun h15r h15 => ?_) (fun h15r h15 => ?_)
    · have hE := zer_hit hk2 h15
      refine zg11 ?_
      rw [hE]
      exact ret1 rfl (by first | exact .pure rfl | exact .pure (limL_pure _) | exact .pure (magL_pure _) | exact .pure (ratE.pure _) | exact .pure (pure_lst u32E _ _) | exact .pure (pure_lst ratE _ _))
    · refine zg5 ?_
      refine st_pure rfl (.bin rfl rfl (add1N (by omega))) ?_
      refine zg3 ?_
      exact nx1 (k + 1) ⟨by omega, fun i hi => by rcases Nat.lt_or_ge i k with h | h; exact hz i h; rw [show i = k by omega]; exact h15⟩
  · obtain rfl : k = p.length := by omega
    refine zg11 ?_
    rw [zer_mis hz]
    exact ret1 rfl (by first | exact .pure rfl | exact .pure (limL_pure _) | exact .pure (magL_pure _) | exact .pure (ratE.pure _) | exact .pure (pure_lst u32E _ _) | exact .pure (pure_lst ratE _ _))
open H0 in
theorem c_FSame5 (p q : List Rat) (n : Nat) (hp0 : 0 < p.length) (hq0 : 0 < q.length) (hn : n ≤ 40) (hpn : p.length ≤ n + 1) (hqn : q.length ≤ n + 1) (hpq : p.length = n + 1 ∨ q.length = n + 1) (hps : upS p n) (hqs : upS q n) (hqs2 : upS (scP (-1) q) n) : CallP Tryz.prog 68 [.list 3 (p.map ratL), .list 3 (q.map ratL)] (bL (!((zipG (· - ·) (upP p n) (upP q n)).any fun x => sgnR x != 0))) := by
  refine fnP Tryz.func68 ?_
  refine zg9 ?_
  refine cp am2 (c_FSub5 p q n hp0 hq0 hn hpn hqn hpq hps hqs hqs2) ?_
  refine cp am1 (c_FZero _ (by rw [zipG_len, upP_len hpn]; omega)) ?_
  refine zg4 ?_
  exact ret1 rfl (by first | exact .pure rfl | exact .pure (limL_pure _) | exact .pure (magL_pure _) | exact .pure (ratE.pure _) | exact .pure (pure_lst u32E _ _) | exact .pure (pure_lst ratE _ _))
namespace H_c_FFP
theorem zSm {p q : Prop} (k : q) (e : p = q := by simp only [e1, e2, e3, e4, p1, p2, p3, q1, q2, q3, l1, t0, t1, r1, r2, r3, r4, Nat.zero_add, Nat.reduceMul, Nat.reduceAdd, b1, b2, b3, b4, b5, b6, i1, i2, i3, i4, i5, i6, Nat.reduceBEq, dfq, etk, ers, efp, take_map_len, map_snoc, len_snoc, List.length_cons, List.length_nil, List.nil_append, List.map_nil, List.take_nil, List.append_nil, kills_map ratE, ratL_kill, spL_kill, LV.kill, kills]; exact rfl) : p := e.mpr k
end H_c_FFP
open H_c_FFP in
theorem c_FFP (c : List Rat) (R : Nat) (hl0 : 0 < c.length) (hl : c.length ≤ 41) (hR : R ≤ 67108864) (hcR : ∀ x ∈ c, rl x ≤ R) : CallP Tryz.prog 57 [.list 3 (c.map ratL)] (.tup [.list 3 ((fpP c).map ratL), iL 0]) := by
  refine fnP Tryz.func57 ?_
  have etk : True := trivial
  have ers : True := trivial
  have efp : True := trivial
  refine zg10 ?_
  refine st_pure rfl (.bin rfl rfl (sub1N (by omega) (by omega))) ?_
  refine zg9 ?_
  refine op_if 14 rfl (fun h14r h14 => ?_) (fun h14r h14 => ?_)
  · exfalso
    omega
  · refine zg5 ?_
    refine wl_if rfl (fun h17r h17 => ?_) (fun h17r h17 => ?_)
    · omega
    · refine zg14 ?_
      refine wl_weak (Weak.own (t := 5) 45 3 rfl rfl) ?_
      refine lp1 (fun (i : Nat) L => (((((St.mk L.slot (hp [(45, ⟨3, ((fpP c).take i).map ratL, true⟩)])).put (some 0) (.list 3 (c.map ratL))).put (some 4) (nI64 (c.length - 1))).put (some 5) (.ref 45 3 0 i)).put (some 6) (nI64 i))) (fun i => i ≤ c.length) (fun i => c.length - i) 0 (Nat.zero_le _) ?_
      rintro i L1 hi
      refine zg8 ?_
      refine wl_if rfl (fun h20r h20 => ?_) (fun h20r h20 => ?_)
      · have hic : i < c.length := by omega
        have hfl := fpP_len c
        have hft : ((fpP c).take i).length = i := by rw [List.length_take]; omega
        have etk : (((fpP c).take i).map ratL).take i = ((fpP c).take i).map ratL := List.take_of_length_le (by rw [List.length_map]; omega)
        have ers : (fpP c).take i ++ [fpS c i (i + 1)] = (fpP c).take (i + 1) := by rw [← fpP_get hic, List.take_add_one, List.getD_eq_getElem?_getD, List.getElem?_eq_getElem (by omega)]; rfl
        refine zg16 ?_
        refine lp1 (fun (k : Nat) L => (((((((St.mk L.slot (hp [(45, ⟨3, ((fpP c).take i).map ratL, true⟩), (7, ⟨3, [ratL (fpS c i k)], true⟩)])).put (some 0) (.list 3 (c.map ratL))).put (some 4) (nI64 (c.length - 1))).put (some 5) (.ref 45 3 0 i)).put (some 6) (nI64 i)).put (some 7) (.eptr 7 3 0 0)).put (some 8) (nI64 k))) (fun k => k ≤ i + 1) (fun k => i + 1 - k) 0 (Nat.zero_le _) (h0 := ⟨_, Weak.of_eq (put_id' (put_id' (put_id' (put_id' (put_id' (put_id' (mk_id' (by rw [show fpS c i 0 = 0 from rfl, ratL_zero]; exact cl)) cl) cl) cl) cl) cl) cl)⟩) ?_
        rintro k L2 hk
        refine zg8 ?_
        refine wl_if rfl (fun h25r h25 => ?_) (fun h25r h25 => ?_)
        · have hki : k ≤ i := by omega
          have hb1 := fpS_rl hl hic hcR k hk
          have hb2 := fp_bd hk (by omega) hR
          have hb3 := chsQ_rl (n := i) k (by omega)
          have hb4 := chsQ_rl (n := c.length - 1) k (by omega)
          have hb5 := hcR _ (getD_mem (i := k) (by omega))
          have hb6 := rl_div (((chs i k : Nat) : Int) : Rat) (((chs (c.length - 1) k : Nat) : Int) : Rat)
          have hb7 := rl_mul ((((chs i k : Nat) : Int) : Rat) / (((chs (c.length - 1) k : Nat) : Int) : Rat)) (c.getD k 0)
          have efp : fpS c i k + ((((chs i k : Nat) : Int) : Rat) / (((chs (c.length - 1) k : Nat) : Int) : Rat)) * c.getD k 0 = fpS c i (k + 1) := by rw [fpS, chR_get (by omega), chR_get (by omega)]
          refine zg4 ?_
          refine wl_regD 14 (by decide +kernel) ?_
          refine zg3 ?_
          refine cp am2 (c_FChoose i k (by omega) (by omega)) ?_
          refine zg2 ?_
          refine cp am2 (c_FChoose (c.length - 1) k (by omega) (by omega)) ?_
          refine cp am2 (c_FOver (((chs i k : Nat) : Int) : Rat) (((chs (c.length - 1) k : Nat) : Int) : Rat) (by omega)) ?_
          refine zg4 ?_
          refine cp am2 (c_FRMul ((((chs i k : Nat) : Int) : Rat) / (((chs (c.length - 1) k : Nat) : Int) : Rat)) (c.getD k 0) (by omega)) ?_
          refine cp am2 (c_FRAdd (fpS c i k) (((((chs i k : Nat) : Int) : Rat) / (((chs (c.length - 1) k : Nat) : Int) : Rat)) * c.getD k 0) (by omega)) ?_
          refine zg6 ?_
          refine st_pure rfl (.bin rfl rfl (add1N (by omega))) ?_
          refine zg3 ?_
          exact nx1 (k + 1) (by omega)
        · obtain rfl : k = i + 1 := by omega
          refine zg9 ?_
          refine st_store rfl (.app (news := [ratL (fpS c i (i + 1))]) rfl rfl rfl rfl rfl (by rw [List.length_map]; omega) (.inl rfl) (by decide) Tryz.underlying38 Tryz.underlying38 Z33a T33 rfl B33 (.inl ⟨44, 0, _, rfl, by decide, rfl, rfl, by simp, rfl, by simp [pures, ratE.pure]⟩) (by simp; omega) (by simp; omega) (by decide)) ?_
          refine zg4 ?_
          refine wl_regW ((Weak.kill _ 44).trans (Weak.kill _ 7)) ?_
          refine zg1 ?_
          refine st_pure rfl (.bin rfl rfl (add1N (by omega))) ?_
          refine zg3 ?_
          exact nx1 (i + 1) (by omega)
      · obtain rfl : i = c.length := by omega
        have hE : (fpP c).take c.length = fpP c := List.take_of_length_le (by rw [fpP_len]; omega)
        refine zg13 ?_
        simp only [hE]
        exact ret2f [45] rfl rfl (imm_refm ratE rfl rfl (by rw [fpP_len])) rfl (.pure rfl)
end Go.Proofs.YthhdcfhaldcheaaGreat
