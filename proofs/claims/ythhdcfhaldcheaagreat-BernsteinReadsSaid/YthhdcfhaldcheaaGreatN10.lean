/- Rational numbers: signs, comparing, sums, products, quotients. -/
import Derived.Test.YthhdcfhaldcheaaGreatN9
set_option linter.unusedVariables false
set_option linter.unusedSimpArgs false
set_option maxHeartbeats 8000000
set_option maxRecDepth 100000
attribute [local irreducible] Go.Lg.opsL Go.Lg.wpL Go.Lg.thenL Go.Lg.blockL
namespace Go.Proofs.YthhdcfhaldcheaaGreat
open Go.Lg
theorem smB_t {q : Rat} (h : smB q = true) : pN q = q.num.natAbs ∧ pD q = q.den ∧ q.num.natAbs < 4294967296 ∧ q.den < 4294967296 := by
  have h2 := of_decide_eq_true h
  exact ⟨by simp [pN, h], by simp [pD, h], h2.1, h2.2⟩
theorem len_mul {x y k l : Nat} (hx : (dig x).length ≤ k) (hy : (dig y).length ≤ l) : (dig (x * y)).length ≤ k + l :=
  dig_length_le (pow_lt_add (dig_length_ge hx) (dig_length_ge hy))
theorem len_add {x y k : Nat} (hx : (dig x).length ≤ k) (hy : (dig y).length ≤ k) : (dig (x + y)).length ≤ k + 1 :=
  dig_length_le (add_pow_lt (dig_length_ge hx) (dig_length_ge hy))
def subL (x y : Nat) : List Nat := if x < y then [] else dig (x - y)
def subE (x y : Nat) : Int := if x < y then 7 else 0
theorem c_NSubAny (x y : Nat) (hx : (dig x).length ≤ 1099511627776) (hy : (dig y).length ≤ 1099511627776) : CallP Tryz.prog 185 [magL x, magL y] (.tup [limL (subL x y), iL (subE x y)]) := by
  unfold subL subE
  by_cases h : x < y
  · rw [if_pos h, if_pos h]
    exact c_NSubLt _ _ (lim_dig _) (lim_dig _) hx hy (by rw [val_dig, val_dig]; exact h)
  · rw [if_neg h, if_neg h]
    have := c_NSub _ _ (lim_dig x) (lim_dig y) hx hy (by rw [val_dig, val_dig]; omega)
    rw [val_dig, val_dig] at this
    exact this
theorem subE_0 {x y : Nat} : subE x y = 0 ↔ y ≤ x := by unfold subE; split <;> omega
theorem subL_le {x y : Nat} (h : y ≤ x) : subL x y = dig (x - y) := by unfold subL; rw [if_neg (by omega)]
theorem sgR_zero (s : Bool) : sgR s 0 = 0 := qv_zero s 1
section
variable {a b : Rat} {s : Bool} {x y d k : Nat}
theorem add_same (hk : 0 < k) (hx : x * k = a.num.natAbs * b.den) (hy : y * k = b.num.natAbs * a.den) (hd : d * k = a.den * b.den) (h : decide (a < 0) = s) : a + sgR s b = qv s (x + y) d := by
  have := qv_add_same s (n := a.num.natAbs) (m := b.num.natAbs) a.den_pos b.den_pos
  rw [← hx, ← hy, ← hd, ← Nat.add_mul, qv_scale s hk] at this
  rw [← this, sgR]
  subst h
  rw [qv_self]
theorem add_ge (hk : 0 < k) (hx : x * k = a.num.natAbs * b.den) (hy : y * k = b.num.natAbs * a.den) (hd : d * k = a.den * b.den) (h : decide (a < 0) ≠ s) (hle : y ≤ x) : a + sgR s b = qv (decide (a < 0)) (x - y) d := by
  have := qv_add_ne (decide (a < 0)) s (n := a.num.natAbs) (m := b.num.natAbs) a.den_pos b.den_pos h (by rw [← hx, ← hy]; exact Nat.mul_le_mul_right _ hle)
  rw [← hx, ← hy, ← hd, ← Nat.sub_mul, qv_scale _ hk] at this
  rw [← this, sgR, qv_self]
theorem add_le (hk : 0 < k) (hx : x * k = a.num.natAbs * b.den) (hy : y * k = b.num.natAbs * a.den) (hd : d * k = a.den * b.den) (h : decide (a < 0) ≠ s) (hle : x ≤ y) : a + sgR s b = qv s (y - x) d := by
  have := qv_add_ne' (decide (a < 0)) s (n := a.num.natAbs) (m := b.num.natAbs) a.den_pos b.den_pos h (by rw [← hx, ← hy]; exact Nat.mul_le_mul_right _ hle)
  rw [← hx, ← hy, ← hd, ← Nat.sub_mul, qv_scale _ hk] at this
  rw [← this, sgR, qv_self]
end
theorem denN_inj {a b : Rat} (h : dig (denN a) = dig (denN b)) : a.den = b.den := by
  have h2 : denN a = denN b := by rw [← val_dig (denN a), h, val_dig]
  rw [denN_eq, denN_eq] at h2
  have := a.den_pos
  have := b.den_pos
  split at h2 <;> split at h2 <;> omega
theorem cmpN_mul {x y k : Nat} (hk : 0 < k) : cmpN (x * k) (y * k) = cmpN x y := by
  simp only [cmpN, Nat.mul_lt_mul_right hk]
theorem lt_abs {a b : Rat} (ha : ¬ a < 0) (hb : ¬ b < 0) : a < b ↔ a.num.natAbs * b.den < b.num.natAbs * a.den := by
  rw [rat_lt0] at ha hb
  rw [Rat.lt_iff]
  have h1 : a.num = (a.num.natAbs : Int) := by omega
  have h2 : b.num = (b.num.natAbs : Int) := by omega
  rw [h1, h2]
  simp only [Int.natAbs_natCast]
  exact_mod_cast Iff.rfl
theorem lt_neg {a b : Rat} (ha : a < 0) (hb : b < 0) : a < b ↔ b.num.natAbs * a.den < a.num.natAbs * b.den := by
  have := lt_abs (a := -b) (b := -a) (by grind) (by grind)
  rw [Rat.neg_num, Rat.neg_num, Int.natAbs_neg, Int.natAbs_neg, Rat.neg_den, Rat.neg_den] at this
  rw [← this]
  grind
theorem cmp_same {a b : Rat} (h : sgnR a = sgnR b) : cmpR a b = if a < 0 then - cmpN (a.num.natAbs * b.den) (b.num.natAbs * a.den) else cmpN (a.num.natAbs * b.den) (b.num.natAbs * a.den) := by
  have hs : (a < 0) ↔ (b < 0) := by
    unfold sgnR at h
    split at h <;> split at h <;> (try split at h) <;> (try split at h) <;> grind
  by_cases ha : a < 0
  · have hb := hs.1 ha
    rw [if_pos ha]
    simp only [cmpR, cmpN, lt_neg ha hb, lt_neg hb ha]
    split <;> split <;> omega
  · have hb := fun h => ha (hs.2 h)
    rw [if_neg ha]
    simp only [cmpR, cmpN, lt_abs ha hb, lt_abs hb ha]
theorem cmp_slt {a b : Rat} (h : sgnR a < sgnR b) : cmpR a b = -1 := by
  have : a < b := by unfold sgnR at h; split at h <;> split at h <;> (try split at h) <;> (try split at h) <;> grind
  simp [cmpR, this]
theorem cmp_sgt {a b : Rat} (h : sgnR b < sgnR a) : cmpR a b = 1 := by
  have h1 : b < a := by unfold sgnR at h; split at h <;> split at h <;> (try split at h) <;> (try split at h) <;> grind
  have h2 : ¬ a < b := by grind
  simp [cmpR, h1, h2]
theorem num0 {q : Rat} (h : (dig q.num.natAbs).length = 0) : q = 0 := by
  have := dig_eq_nil.1 (List.eq_nil_of_length_eq_zero h)
  exact Rat.num_eq_zero.1 (by omega)
theorem wrap_negc {c : Int} {x y : Nat} (h : c = cmpN x y) : IntKind.i64.wrap (0 - c) = -c := by
  have : c = -1 ∨ c = 0 ∨ c = 1 := by rw [h]; unfold cmpN; split <;> (try split) <;> simp
  rw [IntWalk.i64_in _ (by omega)]; omega
end Go.Proofs.YthhdcfhaldcheaaGreat
namespace Go.Lg
open Go.Proofs.YthhdcfhaldcheaaGreat in
theorem OpT.stR1 {P : Program} {L : St} {dst : Option Nat} {T : TypeId} {p x : Operand} {b : Nat} {q q0 : Rat} (hp : L.ev p = .eptr b 3 0 0) (hb : L.heap b = some ⟨3, [ratL q0], true⟩) (hx : L.ev x = ratL q) (hT : TyIs P T 3 true) :
    OpT P L dst (.store T p x) ((L.setB b (some ⟨3, [ratL q], true⟩)).put dst .any) := by
  have h0 : LV.put (ratL q0) 0 (L.ev x) = some (ratL q) := by
    rw [hx, ratL_eq q0]
    have e1 : ∀ n, (magL n).csize = 1 := fun _ => rfl
    simp [LV.put, ratE.csize, ratE.isAgg, csizes, LV.csize, e1]
  have h := OpT.store (P := P) (dst := dst) (T := T) (p := p) (x := x) (y := ratL q0) (y' := ratL q) hp hb rfl rfl rfl (ratE.csize _) h0 (by rw [hx, ratE.csize, ratE.isAgg]; exact hT)
    (by rw [hx]; exact ⟨LV.pure_ne_any (ratE.pure q), LV.pure_ne_tup (ratE.pure q)⟩)
  exact h

end Go.Lg
namespace Go.Proofs.YthhdcfhaldcheaaGreat
open Go.Lg
namespace H_c_RSign
theorem zSm {p q : Prop} (k : q) (e : p = q := by simp only [e1, e2, e3, e4, p1, p2, p3, q1, q2, q3, l1, t0, t1, r1, r2, r3, r4, Nat.zero_add, Nat.reduceMul, Nat.reduceAdd, b1, b2, b3, b4, b5, b6, i1, i2, i3, i4, i5, i6, Nat.reduceBEq, val_dig]; exact rfl) : p := e.mpr k
end H_c_RSign
open H_c_RSign in
theorem c_RSign (q : Rat) (h : rl q ≤ 1099511627776) : CallP Tryz.prog 132 [ratL q] (iL (sgnR q)) := by
  have h1 := rl_num q
  have hq := sgnR_eq q
  refine fnP Tryz.func132 ?_
  refine zg12 ?_
  refine cp am1 (c_NBits _ (by first | assumption | exact lim_dig _) (by omega)) ?_
  refine zg4 ?_
  refine wl_if rfl (fun h3r h3 => ?_) (fun h3r h3 => ?_)
  · have hz : q.num.natAbs = 0 := blen_zero.1 (by omega)
    refine zg8 ?_
    rw [hq, if_pos hz]
    exact ret1 rfl (by first | exact .pure rfl | exact .pure (limL_pure _) | exact .pure (magL_pure _) | exact .pure (ratE.pure _) | exact .pure (pure_lst u32E _ _) | exact .pure (pure_lst ratE _ _))
  · have hz : q.num.natAbs ≠ 0 := fun e => by rw [blen_zero.2 e] at h3; exact h3 rfl
    refine zg7 ?_
    refine wl_if rfl (fun h8r h8 => ?_) (fun h8r h8 => ?_)
    · refine zg8 ?_
      rw [hq, if_neg hz, if_pos h8]
      exact ret1 rfl (by first | exact .pure rfl | exact .pure (limL_pure _) | exact .pure (magL_pure _) | exact .pure (ratE.pure _) | exact .pure (pure_lst u32E _ _) | exact .pure (pure_lst ratE _ _))
    · refine zg9 ?_
      rw [hq, if_neg hz, if_neg h8]
      exact ret1 rfl (by first | exact .pure rfl | exact .pure (limL_pure _) | exact .pure (magL_pure _) | exact .pure (ratE.pure _) | exact .pure (pure_lst u32E _ _) | exact .pure (pure_lst ratE _ _))
open H0 in
theorem c_copied (q : Rat) (h : rl q ≤ 1099511627776) : CallP Tryz.prog 189 [ratL q] (ratL q) := by
  have h1 := rl_num q
  have h2 := rl_denN q
  refine fnP Tryz.func189 ?_
  refine zg7 ?_
  refine wl_regD 9 (by decide +kernel) ?_
  refine zg4 ?_
  refine cp am1 (c_Clone _ (by omega)) ?_
  refine zg2 ?_
  refine cp am1 (c_Clone _ (by omega)) ?_
  refine zg5 ?_
  rw [ratL_eq]
  exact retC [] rfl rfl rfl rfl rfl T33 (.agg (.cons (.pure rfl) (.cons (.pure (magL_pure _)) (.cons (.pure (magL_pure _)) .nil))))
namespace H_c_RCmp
theorem zSm {p q : Prop} (k : q) (e : p = q := by simp only [e1, e2, e3, e4, p1, p2, p3, q1, q2, q3, l1, t0, t1, r1, r2, r3, r4, Nat.zero_add, Nat.reduceMul, Nat.reduceAdd, b1, b2, b3, b4, b5, b6, i1, i2, i3, i4, i5, i6, Nat.reduceBEq, val_dig]; exact rfl) : p := e.mpr k
theorem zSm1 {p q : Prop} (k : q) (e : p = q := by simp only [e1, e2, e3, e4, p1, p2, p3, q1, q2, q3, l1, t0, t1, r1, r2, r3, r4, Nat.zero_add, Nat.reduceMul, Nat.reduceAdd, b1, b2, b3, b4, b5, b6, i1, i2, i3, i4, i5, i6, Nat.reduceBEq, val_dig, ekA, ekB, ekC, ekD]; exact rfl) : p := e.mpr k
theorem nf1 {p : Prop} (h : p := by first | (refine zSm1 ?_; exact rfl) | exact rfl) : p := h
end H_c_RCmp
open H_c_RCmp in
theorem c_RCmp (a b : Rat) (h : rl a + rl b ≤ 1099511627776) : CallP Tryz.prog 188 [ratL a, ratL b] (iL (cmpR a b)) := by
  have a1 := rl_num a
  have a2 := rl_den a
  have a3 := rl_denN a
  have c1 := rl_num b
  have c2 := rl_den b
  have c3 := rl_denN b
  have a0 := a.den_pos
  have c0 := b.den_pos
  have m1 := len_mul a1 c2
  have m2 := len_mul c1 a2
  have m3 := len_mul a2 c2
  have m4 := len_mul a1 c1
  have m5 := len_mul a2 c1
  have m6 := len_mul c2 a2
  refine fnP Tryz.func188 ?_
  refine zg9 ?_
  refine wl_regD 6 (by decide +kernel) ?_
  refine zg1 ?_
  refine cp am1 (c_RSign _ (by omega)) ?_
  refine zg1 ?_
  refine cp am1 (c_RSign _ (by omega)) ?_
  refine zg11 ?_
  refine wl_if rfl (fun h20r h20 => ?_) (fun h20r h20 => ?_)
  · refine zg8 ?_
    refine wl_if rfl (fun h23r h23 => ?_) (fun h23r h23 => ?_)
    · refine zg8 ?_
      rw [cmp_slt h23]
      exact ret1 rfl (by first | exact .pure rfl | exact .pure (limL_pure _) | exact .pure (magL_pure _) | exact .pure (ratE.pure _) | exact .pure (pure_lst u32E _ _) | exact .pure (pure_lst ratE _ _))
    · refine zg9 ?_
      rw [cmp_sgt (by omega)]
      exact ret1 rfl (by first | exact .pure rfl | exact .pure (limL_pure _) | exact .pure (magL_pure _) | exact .pure (ratE.pure _) | exact .pure (pure_lst u32E _ _) | exact .pure (pure_lst ratE _ _))
  · have hss : sgnR a = sgnR b := by omega
    refine zg11 ?_
    refine cp am1 (c_parts _) ?_
    refine zg15 ?_
    refine cp am2 (c_Equal _ _ (by omega) (by omega)) ?_
    refine zg2 ?_
    refine wl_cut (fun L => ∃ (c : Int) (L1 : St), (c = cmpN (a.num.natAbs * b.den) (b.num.natAbs * a.den)) ∧ L = (((St.mk L1.slot (hp [(2, ⟨3, [ratL a], true⟩), (3, ⟨3, [ratL b], true⟩)])).put (some 2) (.eptr 2 3 0 0)).put (some 7) (iL c))) ?_ ?_
    · refine wl_if rfl (fun h34r h34 => ?_) (fun h34r h34 => ?_)
      · refine zg5 ?_
        refine cp am2 (c_NCmp _ _ (lim_dig _) (lim_dig _) (by first | omega | (simp only [val_dig]; omega)) (by first | omega | (simp only [val_dig]; omega))) ?_
        refine zg3 ?_
        exact ⟨cmpN a.num.natAbs b.num.natAbs, _, by rw [denN_inj h34]; exact (cmpN_mul b.den_pos).symm, ((put_id' (put_id' (mk_id' cl) cl) cl)).symm⟩
      · refine zg3 ?_
        refine cp am1 (c_parts _) ?_
        refine zg10 ?_
        refine wl_cut (fun L => ∃ (t : Bool) (L1 : St), (t = (smB a && smB b)) ∧ L = (((((((((St.mk L1.slot (hp [(2, ⟨3, [ratL a], true⟩), (3, ⟨3, [ratL b], true⟩)])).put (some 2) (.eptr 2 3 0 0)).put (some 3) (.eptr 3 3 0 0)).put (some 7) (iL 0)).put (some 8) (nU64 (pN a))).put (some 9) (nU64 (pD a))).put (some 11) (nU64 (pN b))).put (some 12) (nU64 (pD b))).put (some 49) (bL t))) ?_ ?_
        · refine zg3 ?_
          refine op_if 47 rfl (fun h47r h47 => ?_) (fun h47r h47 => ?_)
          · refine zg4 ?_
            exact ⟨smB b, _, by rw [h47r]; rfl, ((put_id' (put_id' (put_id' (put_id' (put_id' (put_id' (put_id' (put_id' (mk_id' cl) cl) cl) cl) cl) cl) cl) cl) cl)).symm⟩
          · refine zg4 ?_
            exact ⟨false, _, by rw [h47r]; rfl, ((put_id' (put_id' (put_id' (put_id' (put_id' (put_id' (put_id' (put_id' (mk_id' cl) cl) cl) cl) cl) cl) cl) cl) cl)).symm⟩
        · rintro _ ⟨t, LR11, ht, rfl⟩
          refine zg1 ?_
          refine wl_if rfl (fun h49r h49 => ?_) (fun h49r h49 => ?_)
          · rw [ht, Bool.and_eq_true] at h49r
            obtain ⟨ekA, ekB, k3, k4⟩ := smB_t h49r.1
            obtain ⟨ekC, ekD, k7, k8⟩ := smB_t h49r.2
            have n1 := mulLt k3 k8
            have n2 := mulLt k7 k4
            have n3 := n1
            have n4 := n2
            rw [← ekA, ← ekD] at n1
            rw [← ekC, ← ekB] at n2
            refine zg4 ?_
            refine st_pure rfl (.bin rfl rfl (mulU (by omega))) ?_
            refine zg2 ?_
            refine st_pure rfl (.bin rfl rfl (mulU (by omega))) ?_
            refine zg1 ?_
            refine st_end nf1 ?_
            refine zg1 ?_
            refine wl_if rfl (fun h56r h56 => ?_) (fun h56r h56 => ?_)
            · refine zg4 ?_
              exact ⟨-1, _, (cmpN_lt (by omega)).symm, ((put_id' (put_id' (mk_id' cl) cl) cl)).symm⟩
            · refine zg4 ?_
              refine st_pure rfl (.bin rfl rfl (mulU (by omega))) ?_
              refine zg2 ?_
              refine st_pure rfl (.bin rfl rfl (mulU (by omega))) ?_
              refine zg1 ?_
              refine st_end nf1 ?_
              refine zg1 ?_
              refine wl_if rfl (fun h63r h63 => ?_) (fun h63r h63 => ?_)
              · refine zg4 ?_
                exact ⟨1, _, (cmpN_gt (by omega)).symm, ((put_id' (put_id' (mk_id' cl) cl) cl)).symm⟩
              · refine zg2 ?_
                exact ⟨0, _, (cmpN_eq (by omega)).symm, ((put_id' (put_id' (mk_id' cl) cl) cl)).symm⟩
          · refine wl_regD 12 (by decide +kernel) ?_
            refine zg3 ?_
            refine cp am1 (c_den _) ?_
            refine cp am2 (c_NMul _ _ (lim_dig _) (lim_dig _) (by omega) (by omega)) ?_
            refine zg3 ?_
            refine cp am1 (c_den _) ?_
            refine cp am2 (c_NMul _ _ (lim_dig _) (lim_dig _) (by omega) (by omega)) ?_
            refine cp am2 (c_NCmp _ _ (lim_dig _) (lim_dig _) (by first | omega | (simp only [val_dig]; omega)) (by first | omega | (simp only [val_dig]; omega))) ?_
            refine zg3 ?_
            exact ⟨cmpN (a.num.natAbs * b.den) (b.num.natAbs * a.den), _, rfl, ((put_id' (put_id' (mk_id' cl) cl) cl)).symm⟩
    · rintro _ ⟨c, LC34, hc, rfl⟩
      refine zg8 ?_
      refine wl_if rfl (fun h76r h76 => ?_) (fun h76r h76 => ?_)
      · refine zg9 ?_
        rw [cmp_same hss, if_pos h76, ← hc, ← wrap_negc hc]
        exact ret1 rfl (by first | exact .pure rfl | exact .pure (limL_pure _) | exact .pure (magL_pure _) | exact .pure (ratE.pure _) | exact .pure (pure_lst u32E _ _) | exact .pure (pure_lst ratE _ _))
      · refine zg9 ?_
        rw [cmp_same hss, if_neg h76, ← hc]
        exact ret1 rfl (by first | exact .pure rfl | exact .pure (limL_pure _) | exact .pure (magL_pure _) | exact .pure (ratE.pure _) | exact .pure (pure_lst u32E _ _) | exact .pure (pure_lst ratE _ _))
namespace H_c_RMul
theorem zSm {p q : Prop} (k : q) (e : p = q := by simp only [e1, e2, e3, e4, p1, p2, p3, q1, q2, q3, l1, t0, t1, r1, r2, r3, r4, Nat.zero_add, Nat.reduceMul, Nat.reduceAdd, b1, b2, b3, b4, b5, b6, i1, i2, i3, i4, i5, i6, Nat.reduceBEq, val_dig, ekA, ekB, ekC, ekD]; exact rfl) : p := e.mpr k
end H_c_RMul
open H_c_RMul in
theorem c_RMul (a b : Rat) (h : rl a + rl b ≤ 1099511627776) : CallP Tryz.prog 107 [ratL a, ratL b] (ratL (a * b)) := by
  have a1 := rl_num a
  have a2 := rl_den a
  have a3 := rl_denN a
  have c1 := rl_num b
  have c2 := rl_den b
  have c3 := rl_denN b
  have a0 := a.den_pos
  have c0 := b.den_pos
  have m1 := len_mul a1 c2
  have m2 := len_mul c1 a2
  have m3 := len_mul a2 c2
  have m4 := len_mul a1 c1
  have m5 := len_mul a2 c1
  have m6 := len_mul c2 a2
  have hE := qv_mul (decide (a < 0)) (decide (b < 0)) a.num.natAbs a.den b.num.natAbs b.den
  rw [qv_self, qv_self] at hE
  refine fnP Tryz.func107 ?_
  have ekA : True := trivial
  have ekB : True := trivial
  have ekC : True := trivial
  have ekD : True := trivial
  refine zg15 ?_
  refine op_if 15 rfl (fun h15r h15 => ?_) (fun h15r h15 => ?_)
  · have hz : a * b = 0 := by rw [num0 (q := a) (by omega), Rat.zero_mul]
    refine zg16 ?_
    rw [hz, ratL_zero]
    exact retC [] rfl rfl rfl rfl rfl T33 (.pure rfl)
  · refine zg7 ?_
    refine wl_if rfl (fun h20r h20 => ?_) (fun h20r h20 => ?_)
    · have hz : a * b = 0 := by rw [num0 (q := b) (by omega), Rat.mul_zero]
      refine zg8 ?_
      rw [hz, ratL_zero]
      exact retC [] rfl rfl rfl rfl rfl T33 (.pure rfl)
    · refine zg6 ?_
      refine cp am1 (c_parts _) ?_
      refine zg14 ?_
      refine wl_cut (fun L => ∃  (L1 : St), (True) ∧ L = ((((St.mk L1.slot (hp [(2, ⟨3, [ratL a], true⟩), (3, ⟨3, [ratL b], true⟩), (4, ⟨3, [.agg [.v (.bool false), .list 1 [], .list 1 []]], true⟩)])).put (some 2) (.eptr 2 3 0 0)).put (some 3) (.eptr 3 3 0 0)).put (some 4) (.eptr 4 3 0 0))) ?_ ?_
      · refine wl_if rfl (fun h28r h28 => ?_) (fun h28r h28 => ?_)
        · obtain ⟨ekA, ekB, k3, k4⟩ := smB_t h28r
          refine zg3 ?_
          refine cp am1 (c_parts _) ?_
          refine zg14 ?_
          refine wl_if rfl (fun h35r h35 => ?_) (fun h35r h35 => ?_)
          · obtain ⟨ekC, ekD, k7, k8⟩ := smB_t h35r
            have n1 := mulLt k3 k7
            have n2 := mulLt k4 k8
            have np := Nat.mul_pos a0 c0
            refine zg9 ?_
            refine st_pure rfl (.bin rfl rfl (mulU (by first | omega | (simp only [ekA, ekB, ekC, ekD]; omega)))) ?_
            refine zg2 ?_
            refine st_pure rfl (.bin rfl rfl (mulU (by first | omega | (simp only [ekA, ekB, ekC, ekD]; omega)))) ?_
            refine cp am3 (c_short _ _ _ (by first | omega | (simp only [ekA, ekB, ekC, ekD]; omega)) (by first | exact np | (simp only [ekA, ekB, ekC, ekD]; exact np)) (by first | omega | (simp only [ekA, ekB, ekC, ekD]; omega))) ?_
            refine zg6 ?_
            rw [hE]
            exact retC [] rfl rfl rfl (ratE.csize _) (ratL_all _) T33 (.pure (ratE.pure _))
          · refine zg2 ?_
            exact ⟨_, trivial, ((put_id' (put_id' (put_id' (mk_id' cl) cl) cl) cl)).symm⟩
        · refine zg2 ?_
          exact ⟨_, trivial, ((put_id' (put_id' (put_id' (mk_id' cl) cl) cl) cl)).symm⟩
      · rintro _ ⟨LC28, -, rfl⟩
        refine zg2 ?_
        refine wl_regD 16 (by decide +kernel) ?_
        refine zg9 ?_
        refine cp am2 (c_NMul _ _ (lim_dig _) (lim_dig _) (by omega) (by omega)) ?_
        refine zg1 ?_
        refine cp am1 (c_den _) ?_
        refine zg1 ?_
        refine cp am1 (c_den _) ?_
        refine cp am2 (c_NMul _ _ (lim_dig _) (lim_dig _) (by omega) (by omega)) ?_
        refine cp am3 (c_reduce _ _ _ (lim_dig _) (lim_dig _) (by first | omega | (simp only [val_dig]; omega)) (by first | omega | (simp only [val_dig]; omega))) ?_
        refine zg4 ?_
        rw [hE]
        exact retC [] rfl rfl rfl (ratE.csize _) (ratL_all _) T33 (.pure (ratE.pure _))
end Go.Proofs.YthhdcfhaldcheaaGreat
